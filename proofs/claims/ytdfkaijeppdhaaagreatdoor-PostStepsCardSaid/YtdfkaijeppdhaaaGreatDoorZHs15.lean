/- Part of the proof. -/
import Derived.Test.YtdfkaijeppdhaaaGreatDoorZHs14
import Derived.Deep.DeepCutAuto
set_option maxRecDepth 100000
set_option maxHeartbeats 8000000
set_option linter.unusedSimpArgs false
set_option linter.unusedVariables false

namespace Go.Proofs.YtdfkaijeppdhaaaGreatDoor
open Lib (hid)
open Proofs.Tryz Go.RowKit Go.Shelf
def amI(P n:Nat)(vs:Nat->Value)(b:a00)(r:ByteArray×Int×a00)(w:World)(e:Ending)(w':World):Prop:=
 e= .returned (.tuple #[.string r.1,.int .i64 r.2.1])/\∃us,RfAt w' P n us r.2.2/\a7b w w' b r.2.2 vs us/\Off [P] w w'
theorem amJ(b:a00)(n:Nat)(line:ByteArray):doB b n line=
  if (a1P (a0M (a06 b) []) line).1.2=100 then (emp,100,b)else if 60<=(b n).length\/1000000<=a1f b then (emp,4,b)else
   if (a1P (a0M (a06 b) []) line).1.2=0 then ((a1P (a0M (a06 b) []) line).1.1,0,a0H b n (a1h b n line))else (emp,(a1P (a0M (a06 b) []) line).1.2,b):=by
 have h:=aaC (a0M (a06 b) []) line;rw[a7a]at h;unfold a6W at h;unfold doB;cases hp:a08 line with
 |none=>rw[hp]at h;simp only at h⊢;rw[h];simp
 | some c=>
  rw[hp]at h;cases hd:c.deed with
  |false=>simp only[hd,Bool.false_eq_true,if_false]at h;simp only[hd,if_true];rw[h];simp
  | true=>
   simp only[hd,if_true]at h;obtain⟨h1,_⟩:=h;rw[h1]
   have hne:¬(a19 c (a0e (a06 b))).1.2=100:=by
    cases c with
    |put x y=>simp[a19]
    |drop x=>simp only[a19];split<;>simp
    |add x y=>simp[a19]
    |stock x=>cases hd
    |share x y=>cases hd
    |asked x y z=>cases hd
   simp only[hd,Bool.true_eq_false,if_false,if_neg hne]
theorem a7e{P n:Nat}{vs:Nat->Value}{b:a00}{w w':World}(h:RfAt w P n vs b)(hb:Below w.heap.size w w'):∃us,RfAt w' P n us b/\a7b w w' b b vs us/\Off [P] w w':=
 ⟨vs,h.below hb,fun i hi h0 g hg=>.inl ⟨i,hi,h0,hg⟩,Off.of_below hb⟩
theorem aaJ(W:World)(ty:TypeId){g0:Nat}(h0:W.heap[g0]? =some (.cells #[] 43 (0,0)))(a:Option Addr)(c:Nat):
  (Builtin.append_ #[40,40] ty #[.slice (some ⟨g0,0,none⟩) 0 0,.slice a 0 c]).run prog W= .ok (.slice (some ⟨g0,0,none⟩) 0 0) W:=by
 obtain⟨i0,hi0,hz0,hz1,hz2⟩:=info_parts Tryz.infoEnt;cases a<;>simp[Builtin.append_,run_underlying underlying40,sizeOf,typeInfo,hi0,Builtin.lenOf,Builtin.firstCells,storeCells,loadCells,loadCellsFrom]
structure App1(b0 g0:Nat)(l:List Ent)(W:World)(v:Value)(W':World):Prop where
 row:W'.ownsRow b0 43 4 v l.length (a0i l)
 grown:W.grownBy W' (some g0)
 is:∃g c,v= .slice (some ⟨g,0,none⟩) l.length c
theorem a8l(b0:Nat){W:World}{g0:Nat}(h0:W.heap[g0]? =some (.cells #[] 43 (0,0)))(hb:b0<=g0){a:Option Addr}{c:Nat}{l:List Ent}{n:Nat}(hn:n=l.length)(hE:EntsAt W (.slice a n c) l)(hl:n<=100)(ty:TypeId):
  ∃v W',(Builtin.append_ #[40,40] ty #[.slice (some ⟨g0,0,none⟩) 0 0,.slice a n c]).run prog W= .ok v W'/\App1 b0 g0 l W v W':=by
 subst hn;obtain⟨i0,hi0,hz0,hz1,hz2⟩:=info_parts Tryz.infoEnt;have hlt:=(aog.1 h0).1
 by_cases hz:l.length=0
 ·have hl0:=aoz.1 hz;subst hl0;exact⟨_,_,aaJ W ty h0 a c,a9B W _ _ 4 h0 hb,⟨rfl,rfl,rfl,aof _,fun _ _ _=>rfl⟩,g0,0,rfl⟩
 obtain⟨g,off,c',hv,_⟩:=hE.entry (k:=0) om;simp only[Value.slice.injEq]at hv;obtain⟨rfl,_,rfl⟩:=hv;obtain⟨v',W',hrun,hown,hgr,_⟩:=run_append_own (P:=prog) (w:=W) b0 40 ty 43 i0 _ 4 40 underlying40 hi0 hz0 hz1 hz2 rfl ox (.slice (some ⟨g0,0,none⟩) 0 0) 0 [] (a9B W _ _ 4 h0 hb) ⟨g,off,none⟩ l.length c (a0i l) (a18 l) hE.news (a3s _) (by unfold maxLen;omega) om om;rw[ap5,aoM]at hown;obtain⟨g1,c1,hv1,_⟩:=hown.form om;exact⟨v',W',hrun,hown,hgr,g1,c1,hv1⟩
structure App2(b0:Nat)(v1:Value)(l:List Ent)(e:Ent)(W:World)(v:Value)(W':World):Prop where
 row:W'.ownsRow b0 43 4 v (l++[e]).length (a0i (l++[e]))
 grown:W.grownBy W' v1.ownBlock
 is:∃g c,v= .slice (some ⟨g,0,none⟩) (l.length+1) c
theorem a7f{b0:Nat}{W:World}{v1:Value}{l:List Ent}(hr:W.ownsRow b0 43 4 v1 l.length (a0i l))(hbw:b0<=W.heap.size)(hl:l.length<=100){ge:Nat}{e:Ent}{c0 c1 c2 c3:Value}(he:W.heap[ge]? =some (.cells #[c0,c1,c2,c3] 43 (0,0)))(hc:a1s e=[c0,c1,c2,c3])(ty:TypeId):
  ∃v W',(Builtin.append_ #[40,40] ty #[v1,.slice (some ⟨ge,0,none⟩) 1 1]).run prog W= .ok v W'/\App2 b0 v1 l e W v W':=by
 obtain⟨i0,hi0,hz0,hz1,hz2⟩:=info_parts Tryz.infoEnt;obtain⟨v',W',hrun,hown,hgr,_⟩:=run_append_own (P:=prog) (w:=W) b0 40 ty 43 i0 _ 4 40 underlying40 hi0 hz0 hz1 hz2 rfl ox v1 l.length (a0i l) hr ⟨ge,0,none⟩ 1 1 (a0i [e]) (by rw[a18];rfl) (a4Z he hc) (a3s _) (by unfold maxLen;omega) om hbw;obtain⟨g1,c1,hv1,_⟩:=hown.form om;exact⟨v',W',hrun,by rw[aol,apu,a2f];exact hown,hgr,g1,c1,hv1⟩
theorem anC{P n:Nat}{vs:Nat->Value}{b:a00}{e:Ent}{w wc W9:World}{v9:Value}(hn:n<4)(hok:(b n).length<=60)(hw:Below w.heap.size w wc)(h:RfAt wc P n vs b)(hPw:P<w.heap.size)(hne:∀i,i<4->0<(b i).length->(vs i).ownBlock≠some P)
  (hk:KB wc W9)(hr:W9.ownsRow wc.heap.size 43 4 v9 (b n++[e]).length (a0i (b n++[e]))):
  (∃us,RfAt (W9.setCell ⟨P,1+n,none⟩ v9) P n us (a0H b n e)/\a7b w (W9.setCell ⟨P,1+n,none⟩ v9) b (a0H b n e) vs us/\Off [P] w (W9.setCell ⟨P,1+n,none⟩ v9))/\W9.cell? ⟨P,1+n,none⟩=some (vs n)/\W9.frozen? ⟨P,1+n,none⟩=false:=by
 have hP9:=(Below.block hk P h.lt).trans h.1
 have hsz:=Below.size hk;have hsw:=hw.size;have hadd:a0H b n e n=b n++[e]:=by unfold a0H;rw[a3n]
 have hado:∀i,i≠n->a0H b n e i=b i:=fun i hi=>by unfold a0H;rw[a2U _ _ hi]
 refine⟨⟨a1m vs n v9,⟨?_,fun i hi=>?_⟩,fun i hi h0 g hg=>?_,((Off.of_below hw).trans (Off.of_below hk)).set _ _⟩,?_,by simp[World.frozen?,hP9]⟩
 ·rw[a5H hP9];congr 1;unfold a1m;rcases (show n=0\/n=1\/n=2\/n=3 by omega)with rfl|rfl|rfl|rfl<;>simp
 ·by_cases hin:i=n
  ·subst hin;rw[a0D,hadd];have hl:EntsAt W9 v9 (b i++[e]):=ListAt.ents (a2l hr (aot _)) (by rw[aol,apu];omega);exact hl.keep fun _ g hg=>aok _ _ _ g (by have:=(hr.lt g hg).1;show g≠P;omega)
  rw[a0m _ _ hin,hado i hin];refine(h.2 i hi).keep fun h0 g hg=>?_
  have hgl:=(h.2 i hi).lt h0 hg
  exact(aok _ _ _ g (fun e2=>hne i hi h0 (by rw[hg,e2]))).trans (Below.block hk g hgl)
 ·by_cases hin:i=n
  ·subst hin;rw[a0D]at hg;have:=hr.lt g hg;exact .inr ⟨om,by rw[aos];exact this.2⟩
  rw[a0m _ _ hin]at hg;rw[hado i hin]at h0;exact .inl ⟨i,hi,h0,hg⟩
 rcases (show n=0\/n=1\/n=2\/n=3 by omega)with rfl|rfl|rfl|rfl<;>exact heap_cell hP9 rfl
theorem KB.grown{w W W':World}{g:Nat}(h:KB w W)(hg:W.grownBy W' (some g))(hw:w.heap.size<=g):KB w W':=Below.grown h hg (Below.size h) (fun k e=>by injection e with e;omega)
structure KQ(P:Nat)(v:Value)(w W:World):Prop where
 off:Off [P] w W
 num:W.cell? ⟨P,0,none⟩=some v
 lt:P<W.heap.size
theorem KQ.drew{P:Nat}{v:Value}{w W:World}(h:KQ P v w W):KQ P v w W.drew:=⟨h.off.drew,h.num,h.lt⟩
theorem KQ.alloc{P:Nat}{v:Value}{w W:World}(h:KQ P v w W)(o:Obj):KQ P v w (W.alloc o):=
 ⟨h.off.alloc o,(World.cell?_of_block (aop _ _ _ (by exact h.lt))).trans h.num,by have:=h.lt;simp;omega⟩
theorem KQ.of_kb{P:Nat}{v:Value}{w W:World}(h:KB w W)(hv:w.cell? ⟨P,0,none⟩=some v):KQ P v w W:=
 ⟨Off.of_below h,keep_cell h hv,aox (World.block_lt_of_cell? _ _ hv) (Below.size h)⟩
theorem KQ.set{P:Nat}{v:Value}{w W:World}(h:KQ P v w W)(j:Nat)(x:Value):KQ P v w (W.setCell ⟨P,1+j,none⟩ x):=by
 refine⟨h.off.set _ _,?_,by rw[aos];exact h.lt⟩;rw[<-h.num];exact World.cell?_setCell_other _ _ _ _ (by intro e;injection e with _ e;omega)
theorem KQ.cell{P:Nat}{v:Value}{w W:World}(h:KQ P v w W){b j:Nat}{x:Value}(hb:b≠P)(hc:w.cell? ⟨b,j,none⟩=some x):W.cell? ⟨b,j,none⟩=some x:=
 (World.cell?_of_block (h.off.block b (World.block_lt_of_cell? _ _ hc) (by simpa using hb))).trans hc
theorem amK(P n:Nat)(hn:n<4)(vs:Nat->Value)(b:a00)(line:ByteArray)(hs:line.size<=1000000)(w:World)(h:RfAt w P n vs b)(hok:a02 b)(hne:∀i,i<4->0<(b i).length->(vs i).ownBlock≠some P):
  Calls prog 28 #[.pointer (some ⟨P,0,none⟩),.string line] w (amI P n vs b (doB b n line) w):=by
 have HDB:=hid (amJ b n line);obtain⟨D,hD⟩:∃D,D=doB b n line:=⟨_,rfl⟩
 rw[<-hD]at HDB⊢;clear hD;obtain⟨ra,re,rl,hr⟩:∃ra re rl,a1P (a0M (a06 b) []) line=((ra,re),rl):=⟨_,_,_,rfl⟩
 rw[hr]at HDB;have HR:=hid hr;have HSY:=hid (ack P n vs b w h hok);have HLA:Hid ((a06 b).length<=240):=hid (by rw[a1j];exact a1X hok);have HRF:=hid h;have HOK:=hid hok;have HNE:=hid hne;clear hr h hok hne;by_cases h100:re=100
 ·have HD1:Hid (D=(emp,100,b)):=hid (by rw[HDB.out,if_pos h100]);subst h100;go_enter func28,ntmps28;go_wp2_with fail
  refine HSY.out.mono ?_;rintro e w1 ⟨B,rfl,hsy,hb1⟩
  have HDE:=hid (a4h w.heap.size B (a0M (a06 b) []) line hs w1 hsy (by
   have h9:=a2S (a06 b) [];simp only[aow]at h9;have:=HLA.out;omega) (a3x _ (by have:=HLA.out;omega)))
  unfold a41 at HDE;rw[HR.out]at HDE;go_wp2_with fail
  refine HDE.out.mono ?_;rintro e w2 ⟨rfl,hs2,ht2⟩;have HB2:=hid (hb1.trans (ht2.below (by obtain⟨_,_,_,h8⟩:=hsy;exact h8.low) hb1.size));clear hsy hb1 hs2 ht2;go_wp2;go_ret2;rw[HD1.out];exact⟨rfl,a7e HRF.out HB2.out⟩
 have hre:((re:Int)==100)=false:=by rw[beq_eq_false_iff_ne];exact h100
 have HD1:Hid (D=if 60<=(b n).length\/1000000<=a1f b then (emp,4,b)else if re=0 then (ra,0,a0H b n (a1h b n line))else (emp,re,b)):=hid (by rw[HDB.out,if_neg h100]);have hlen:=(HOK.out n hn).len
 have hcnt:=a4w HOK.out;have hn4:(n:Int)<4:=om;have hn0:(0:Int)<=(n:Int):=om;obtain⟨len,hlen2⟩:∃len,len=(b n).length:=⟨_,rfl⟩
 have HLN:=hid hlen2;obtain⟨ct,hct⟩:∃ct,ct=a1f b:=⟨_,rfl⟩
 have HCT:=hid hct;rw[<-hlen2]at hlen HD1;rw[<-hct]at hcnt HD1;clear hlen2 hct h100 HDB;have HCO:=hid (fun W (h:RfAt W P n vs b)=>aaz P n vs b W h HOK.out);rw[<-HCT.out]at HCO;by_cases h60:60<=len
 ·have HD2:Hid (D=(emp,4,b)):=hid (by rw[HD1.out,if_pos (.inl h60)]);have h60i:(60:Int)<=(len:Int):=om;clear HD1 h60;go_enter func28,ntmps28;go_wp2_with fail
  refine HSY.out.mono ?_;rintro e w1 ⟨B,rfl,hsy,hb1⟩
  have HDE:=hid (a4h w.heap.size B (a0M (a06 b) []) line hs w1 hsy (by
   have h9:=a2S (a06 b) [];simp only[aow]at h9;have:=HLA.out;omega) (a3x _ (by have:=HLA.out;omega)))
  unfold a41 at HDE;rw[HR.out]at HDE;go_wp2_with fail
  refine HDE.out.mono ?_;rintro e w2 ⟨rfl,hs2,ht2⟩;have HB2:=hid (hb1.trans (ht2.below (by obtain⟨_,_,_,h8⟩:=hsy;exact h8.low) hb1.size));clear hsy hb1 hs2 ht2;have HR2:=hid (HRF.out.below HB2.out);have c0:=heap_cell (j:=0) HR2.out.1 rfl;have c1:=HR2.out.cell hn;obtain⟨a,cap,hv⟩:=(HR2.out.2 n hn).shape
  rw[hv,<-HLN.out]at c1;clear hv;go_wp2;go_quiet (fail)
  have HB3:=hid (a0q HB2.out nq);go_wp2;go_ret2;rw[HD2.out];exact⟨rfl,a7e HRF.out HB3.out⟩
 have h60i:¬(60:Int)<=(len:Int):=om;by_cases hct6:1000000<=ct
 ·have HD2:Hid (D=(emp,4,b)):=hid (by rw[HD1.out,if_pos (.inr hct6)]);clear HD1 h60;go_enter func28,ntmps28;go_wp2_with fail
  refine HSY.out.mono ?_;rintro e w1 ⟨B,rfl,hsy,hb1⟩
  have HDE:=hid (a4h w.heap.size B (a0M (a06 b) []) line hs w1 hsy (by
   have h9:=a2S (a06 b) [];simp only[aow]at h9;have:=HLA.out;omega) (a3x _ (by have:=HLA.out;omega)))
  unfold a41 at HDE;rw[HR.out]at HDE;go_wp2_with fail
  refine HDE.out.mono ?_;rintro e w2 ⟨rfl,hs2,ht2⟩;have HB2:=hid (hb1.trans (ht2.below (by obtain⟨_,_,_,h8⟩:=hsy;exact h8.low) hb1.size));clear hsy hb1 hs2 ht2;have HR2:=hid (HRF.out.below HB2.out);have c0:=heap_cell (j:=0) HR2.out.1 rfl;have c1:=HR2.out.cell hn;obtain⟨a,cap,hv⟩:=(HR2.out.2 n hn).shape
  rw[hv,<-HLN.out]at c1;clear hv;go_wp2;go_quiet (fail)
  have HB3:=hid (a0q HB2.out nq);go_wp2_with fail
  refine(HCO.out _ (HRF.out.below HB3.out)).mono ?_
  rintro e w4 ⟨rfl,rfl⟩;go_wp2;go_ret2;rw[HD2.out];exact⟨rfl,a7e HRF.out HB3.out⟩
 have hct6i:¬1000000<=ct:=hct6;have HD2:Hid (D=if re=0 then (ra,0,a0H b n (a1h b n line))else (emp,re,b)):=hid (by rw[HD1.out,if_neg om]);clear HD1;by_cases h0:re=0
 ·have HD3:Hid (D=(ra,0,a0H b n (a1h b n line))):=hid (by rw[HD2.out,if_pos h0]);subst h0;clear HD2;go_enter func28,ntmps28;go_wp2_with fail
  refine HSY.out.mono ?_;rintro e w1 ⟨B,rfl,hsy,hb1⟩
  have HDE:=hid (a4h w.heap.size B (a0M (a06 b) []) line hs w1 hsy (by
   have h9:=a2S (a06 b) [];simp only[aow]at h9;have:=HLA.out;omega) (a3x _ (by have:=HLA.out;omega)))
  unfold a41 at HDE;rw[HR.out]at HDE;go_wp2_with fail
  refine HDE.out.mono ?_;rintro e w2 ⟨rfl,hs2,ht2⟩;have HB2:=hid (hb1.trans (ht2.below (by obtain⟨_,_,_,h8⟩:=hsy;exact h8.low) hb1.size));clear hsy hb1 hs2 ht2;have HR2:=hid (HRF.out.below HB2.out);have c0:=heap_cell (j:=0) HR2.out.1 rfl;have c1:=HR2.out.cell hn;obtain⟨a,cap,hv⟩:=(HR2.out.2 n hn).shape
  rw[hv,<-HLN.out]at c1;have HVN:=hid hv;clear hv;go_wp2;go_quiet (fail)
  have HB3:=hid (a0q HB2.out nq);go_wp2_with fail
  refine(HCO.out _ (HRF.out.below HB3.out)).mono ?_
  rintro e w4 ⟨rfl,rfl⟩;go_wp2;refine aaF (fun W5 hX5=>?_);have HX5:=hid hX5;have HB5:Hid (Below w.heap.size w W5):=hid (HB2.out.trans (hX5.mono HB2.out.size));have HR5:=hid (HRF.out.below HB5.out);have HC5:=hid (fun W (hW:KB W5 W)=>HCO.out W (HR5.out.below hW));have r0:∀W,KB W5 W->W.cell? ⟨P,0,none⟩=some (.int .i64 (n:Int)):=fun W hW=>keep_cell hW (heap_cell HR5.out.1 rfl);have v1:IntKind.i64.wrap ((len:Int)+1)=(len:Int)+1:=IntWalk.i64_in _ om;have v2:IntKind.i64.wrap (ct+1)=ct+1:=IntWalk.i64_in _ om;clear c0 c1 HR2 hX5;go_cut [9] (fun s9 wx=>∃g,s9= .pointer (some ⟨g,0,none⟩)/\W5.heap.size<=g/\wx.heap[g]? =some (.cells #[.int .i64 (n:Int),.int .i64 ((len:Int)+1),.int .i64 (ct+1),.string line] 43 (0,0))/\KB W5 wx)
  case first=>
   go_region_held3 (fun W=>KB W5 W) (first|exact KB.drew (KB.refl _)|assumption|(unfold KB at *;repeat (first|assumption|exact aoi _ _|refine Below.setCell ?_ (by first|omega|(simp;done)|(simp;omega)) _|refine Below.drew ?_ |refine Below.alloc ?_ (by first|omega|(simp;done)|(simp;omega)) _))|fail) (first
    |(go_at_call 61;refine(HC5.out _ (by first|exact KB.drew (KB.refl _)|assumption|(unfold KB;exact(aoi _ _).alloc (aof _) _)|(unfold KB;exact((aoi _ _).alloc (aof _) _).drew))).mono ?_;rintro e w2 ⟨rfl,rfl⟩)
    |fail)
   all_goals (go_wp2_with fail;go_meet)
   all_goals exact⟨_,rfl,aof _,World.alloc_heap_new W5 _,KB.drew (KB.alloc (KB.refl _) _)⟩
  case rest=>
   obtain⟨ge,rfl,hge,hcells,hk⟩:=hcut;have HGE:=hid hcells;have HKB:=hid hk;have HRX:=hid (HR5.out.below hk);have HPW:Hid (P<w.heap.size):=hid HRF.out.lt
   have HPE:Hid (ge≠P):=hid (by
    have h1:=HRF.out.lt;have h2:=HB5.out.size;omega)
   have HN0:Hid (wc.cell? ⟨P,0,none⟩=some (.int .i64 (n:Int))):=hid (heap_cell HRX.out.1 rfl);have HWC:Hid (Below w.heap.size w wc):=hid (HB5.out.trans (Below.mono hk HB5.out.size));have HEX:Hid (EntsAt wc (.slice a len cap) (b n)):=hid (by have h9:=HRX.out.2 n hn;rw[HVN.out,<-HLN.out]at h9;exact h9);have q0:∀W,KQ P (.int .i64 (n:Int)) wc W->W.cell? ⟨P,0,none⟩=some (.int .i64 (n:Int)):=fun W hW=>hW.num;have q1:∀W,KQ P (.int .i64 (n:Int)) wc W->W.cell? ⟨ge,0,none⟩=some (.int .i64 (n:Int)):=fun W hW=>hW.cell HPE.out (heap_cell HGE.out rfl);have q2:∀W,KQ P (.int .i64 (n:Int)) wc W->W.cell? ⟨ge,1,none⟩=some (.int .i64 ((len:Int)+1)):=fun W hW=>hW.cell HPE.out (heap_cell HGE.out rfl);have q3:∀W,KQ P (.int .i64 (n:Int)) wc W->W.cell? ⟨ge,2,none⟩=some (.int .i64 (ct+1)):=fun W hW=>hW.cell HPE.out (heap_cell HGE.out rfl);have q4:∀W,KQ P (.int .i64 (n:Int)) wc W->W.cell? ⟨ge,3,none⟩=some (.string line):=fun W hW=>hW.cell HPE.out (heap_cell HGE.out rfl);have hk0:KQ P (.int .i64 (n:Int)) wc wc:=KQ.of_kb (KB.refl _) HN0.out;obtain⟨e0,he0⟩:∃e0,e0=a1h b n line:=⟨_,rfl⟩
   have HEC:Hid (a1s e0=[.int .i64 (n:Int),.int .i64 ((len:Int)+1),.int .i64 (ct+1),.string line]):=hid (by rw[he0,HLN.out,HCT.out];rfl);rw[<-he0]at HD3;have HLW:Hid ((b n).length<=60):=hid (by rw[<-HLN.out];exact hlen);have HEND:=hid (fun W9 v9 hk hr=>anC (W9:=W9) (v9:=v9) (e:=e0) hn HLW.out HWC.out HRX.out HPW.out HNE.out hk hr);clear r0 v1 v2 hcells hk hge HC5 he0;obtain⟨W6a,hW6a⟩:∃W6,W6=(wc.alloc (.cells #[] 43)).drew:=⟨_,rfl⟩
   have HK6a:Hid (KB wc W6a):=hid (by rw[hW6a];repeat (first|exact KB.refl _|refine KB.drew ?_ |refine KB.alloc ?_ _));have HE6a:Hid (W6a.heap[wc.heap.size]? =some (.cells #[] 43 (0,0))):=hid (by rw[hW6a];exact World.alloc_heap_new wc _);have HAa:=hid (fun ty=>a8l wc.heap.size HE6a.out om HLN.out (HEX.out.below HK6a.out) om ty);have HW6a:=hid hW6a;obtain⟨W6b,hW6b⟩:∃W6,W6=((wc.alloc (.cells #[] 43)).alloc (.cells #[.int .i64 (n:Int),.int .i64 ((len:Int)+1),.int .i64 (ct+1),.string line] 43)).drew:=⟨_,rfl⟩
   have HK6b:Hid (KB wc W6b):=hid (by rw[hW6b];repeat (first|exact KB.refl _|refine KB.drew ?_ |refine KB.alloc ?_ _));have HE6b:Hid (W6b.heap[wc.heap.size]? =some (.cells #[] 43 (0,0))):=hid (by rw[hW6b];exact(aop _ _ _ oz).trans (World.alloc_heap_new wc _));have HAb:=hid (fun ty=>a8l wc.heap.size HE6b.out om HLN.out (HEX.out.below HK6b.out) om ty);have HW6b:=hid hW6b;obtain⟨W6c,hW6c⟩:∃W6,W6=((wc.alloc (.cells #[.int .i64 (n:Int),.int .i64 ((len:Int)+1),.int .i64 (ct+1),.string line] 43)).alloc (.cells #[] 43)).drew:=⟨_,rfl⟩
   have HK6c:Hid (KB wc W6c):=hid (by rw[hW6c];repeat (first|exact KB.refl _|refine KB.drew ?_ |refine KB.alloc ?_ _));have HE6c:Hid (W6c.heap[wc.heap.size+1]? =some (.cells #[] 43 (0,0))):=hid (by rw[hW6c];exact by have h9:=World.alloc_heap_new (wc.alloc (.cells #[.int .i64 (n:Int),.int .i64 ((len:Int)+1),.int .i64 (ct+1),.string line] 43)) (.cells #[] 43);rw[aoq]at h9;exact h9);have HAc:=hid (fun ty=>a8l wc.heap.size HE6c.out om HLN.out (HEX.out.below HK6c.out) om ty);have HW6c:=hid hW6c;have HNB:Hid (W6b.heap[wc.heap.size+1]? =some (.cells #[.int .i64 (n:Int),.int .i64 ((len:Int)+1),.int .i64 (ct+1),.string line] 43 (0,0))):=hid (by rw[hW6b];exact(by have h9:=World.alloc_heap_new (wc.alloc (.cells #[] 43)) (.cells #[.int .i64 (n:Int),.int .i64 ((len:Int)+1),.int .i64 (ct+1),.string line] 43);rw[aoq]at h9;exact h9));have HNC:Hid (W6c.heap[wc.heap.size]? =some (.cells #[.int .i64 (n:Int),.int .i64 ((len:Int)+1),.int .i64 (ct+1),.string line] 43 (0,0))):=hid (by rw[hW6c];exact(aop _ _ _ oz).trans (World.alloc_heap_new wc _));clear hW6a hW6b hW6c;go_wp2
   go_region_held3 (fun W=>KQ P (.int .i64 (n:Int)) wc W) (repeat (first|(with_reducible assumption)|(with_reducible refine KQ.drew ?_)|(with_reducible refine KQ.alloc ?_ _)|(with_reducible refine KQ.set ?_ _ _))) (first
    |((rw[<-HW6a.out];refine a0F oy _ _ _ oy (.slice (some ⟨wc.heap.size,0,none⟩) 0 0) (.slice a len cap) oy oy (App1 wc.heap.size wc.heap.size (b n) W6a) (HAa.out _) ?_;intro v7 W7 hR;obtain⟨g7,k7,rfl⟩:=hR.is;have hk7:KB wc W7:=HK6a.out.grown hR.grown (aof _);have HK7:=hid hk7;have hq7:KQ P (.int .i64 (n:Int)) wc W7:=KQ.of_kb hk7 HN0.out;have HR7:=hid hR.row;obtain⟨W8,hW8⟩:∃W8,W8=W7.alloc (.cells #[.int .i64 (n:Int),.int .i64 ((len:Int)+1),.int .i64 (ct+1),.string line] 43):=⟨_,rfl⟩;have HKa8:Hid (KB wc W8):=hid (by rw[hW8];exact hk7.alloc _);have HR8:Hid (W8.ownsRow wc.heap.size 43 4 (.slice (some ⟨g7,0,none⟩) (b n).length k7) (b n).length (a0i (b n))):=hid (by rw[hW8];exact hR.row.alloc _);have HBa:=hid (fun ty=>a7f HR8.out (Below.size HKa8.out) (by have:=HLW.out;omega) (ge:=W7.heap.size) (e:=e0) (by rw[hW8];exact World.alloc_heap_new W7 _) HEC.out ty);have hq8:KQ P (.int .i64 (n:Int)) wc W8:=KQ.of_kb HKa8.out HN0.out;have HW8:=hid hW8;have HG7:=hid (hR.row.lt g7 rfl).1;rw[<-HLN.out]at HBa;rw[<-HLN.out];clear hR hW8))
    |((rw[<-HW6b.out];refine a0F oy _ _ _ oy (.slice (some ⟨wc.heap.size,0,none⟩) 0 0) (.slice a len cap) oy oy (App1 wc.heap.size wc.heap.size (b n) W6b) (HAb.out _) ?_;intro v7 W7 hR;obtain⟨g7,k7,rfl⟩:=hR.is;have hk7:KB wc W7:=HK6b.out.grown hR.grown (aof _);have HK7:=hid hk7;have hq7:KQ P (.int .i64 (n:Int)) wc W7:=KQ.of_kb hk7 HN0.out;have HBb:=hid (fun ty=>a7f hR.row (Below.size hk7) (by have:=HLW.out;omega) (ge:=wc.heap.size+1) (e:=e0) ((hR.grown.block (wc.heap.size+1) (aog.1 HNB.out).1 (fun e=>by injection e with e;omega)).trans HNB.out) HEC.out ty);have HG7:=hid (hR.row.lt g7 rfl).1;rw[<-HLN.out]at HBb;rw[<-HLN.out];clear hR))
    |((rw[<-HW6c.out];refine a0F oy _ _ _ oy (.slice (some ⟨wc.heap.size+1,0,none⟩) 0 0) (.slice a len cap) oy oy (App1 wc.heap.size (wc.heap.size+1) (b n) W6c) (HAc.out _) ?_;intro v7 W7 hR;obtain⟨g7,k7,rfl⟩:=hR.is;have hk7:KB wc W7:=HK6c.out.grown hR.grown (aoS _);have HK7:=hid hk7;have hq7:KQ P (.int .i64 (n:Int)) wc W7:=KQ.of_kb hk7 HN0.out;have HBc:=hid (fun ty=>a7f hR.row (Below.size hk7) (by have:=HLW.out;omega) (ge:=wc.heap.size) (e:=e0) ((hR.grown.block wc.heap.size (aog.1 HNC.out).1 (fun e=>by injection e with e;omega)).trans HNC.out) HEC.out ty);have HG7:=hid (hR.row.lt g7 rfl).1;rw[<-HLN.out]at HBc;rw[<-HLN.out];clear hR))
    |((rw[<-HW8.out];refine a0F oy _ _ _ oy (.slice (some ⟨g7,0,none⟩) len k7) (.slice (some ⟨W7.heap.size,0,none⟩) 1 1) oy oy (App2 wc.heap.size (.slice (some ⟨g7,0,none⟩) len k7) (b n) e0 W8) (HBa.out _) ?_;intro v9 W9 hR;have hk9:KB wc W9:=HKa8.out.grown hR.grown HG7.out;have HE9:=hid (HEND.out W9 v9 hk9 hR.row);have hq9:KQ P (.int .i64 (n:Int)) wc W9:=KQ.of_kb hk9 HN0.out;obtain⟨g9,k9,rfl⟩:=hR.is;obtain⟨_,c9,f9⟩:=HE9.out;clear hR))
    |((refine a0F oy _ _ _ oy (.slice (some ⟨g7,0,none⟩) len k7) (.slice (some ⟨wc.heap.size+1,0,none⟩) 1 1) oy oy (App2 wc.heap.size (.slice (some ⟨g7,0,none⟩) len k7) (b n) e0 W7) (HBb.out _) ?_;intro v9 W9 hR;have hk9:KB wc W9:=HK7.out.grown hR.grown HG7.out;have HE9:=hid (HEND.out W9 v9 hk9 hR.row);have hq9:KQ P (.int .i64 (n:Int)) wc W9:=KQ.of_kb hk9 HN0.out;obtain⟨g9,k9,rfl⟩:=hR.is;obtain⟨_,c9,f9⟩:=HE9.out;clear hR))
    |((refine a0F oy _ _ _ oy (.slice (some ⟨g7,0,none⟩) len k7) (.slice (some ⟨wc.heap.size,0,none⟩) 1 1) oy oy (App2 wc.heap.size (.slice (some ⟨g7,0,none⟩) len k7) (b n) e0 W7) (HBc.out _) ?_;intro v9 W9 hR;have hk9:KB wc W9:=HK7.out.grown hR.grown HG7.out;have HE9:=hid (HEND.out W9 v9 hk9 hR.row);have hq9:KQ P (.int .i64 (n:Int)) wc W9:=KQ.of_kb hk9 HN0.out;obtain⟨g9,k9,rfl⟩:=hR.is;obtain⟨_,c9,f9⟩:=HE9.out;clear hR))
    |fail)
   all_goals
    go_wp2;go_ret2;rw[HD3.out];exact⟨rfl,HE9.out.1⟩
 have HD3:Hid (D=(emp,re,b)):=hid (by rw[HD2.out,if_neg h0]);have hre0:((re:Int) != 0)=true:=by rw[bne_iff_ne];exact h0
 clear HD2 h0;go_enter func28,ntmps28;go_wp2_with fail
 refine HSY.out.mono ?_;rintro e w1 ⟨B,rfl,hsy,hb1⟩
 have HDE:=hid (a4h w.heap.size B (a0M (a06 b) []) line hs w1 hsy (by
  have h9:=a2S (a06 b) [];simp only[aow]at h9;have:=HLA.out;omega) (a3x _ (by have:=HLA.out;omega)))
 unfold a41 at HDE;rw[HR.out]at HDE;go_wp2_with fail
 refine HDE.out.mono ?_;rintro e w2 ⟨rfl,hs2,ht2⟩;have HB2:=hid (hb1.trans (ht2.below (by obtain⟨_,_,_,h8⟩:=hsy;exact h8.low) hb1.size));clear hsy hb1 hs2 ht2;have HR2:=hid (HRF.out.below HB2.out);have c0:=heap_cell (j:=0) HR2.out.1 rfl;have c1:=HR2.out.cell hn;obtain⟨a,cap,hv⟩:=(HR2.out.2 n hn).shape
 rw[hv,<-HLN.out]at c1;clear hv;go_wp2;go_quiet (fail)
 have HB3:=hid (a0q HB2.out nq);go_wp2_with fail
 refine(HCO.out _ (HRF.out.below HB3.out)).mono ?_
 rintro e w4 ⟨rfl,rfl⟩;go_wp2;go_ret2;rw[HD3.out];exact⟨rfl,a7e HRF.out HB3.out⟩
theorem ajk(P:Nat)(n:Int)(vs:Nat->Value)(b:a00)(w:World)(h:RfAt w P n vs b)(hok:a02 b):
  Calls prog 79 #[.pointer (some ⟨P,0,none⟩)] w (a74 b w):=by
 have HRF:=hid h;have HOK:=hid (fun i hi=>(hok i hi).len);clear h hok;obtain⟨w2,hw2⟩:∃w2,w2=(w.alloc (.cells #[.int .i64 0,.int .i64 0,.int .i64 0,.int .i64 0] 34)).alloc (.cells #[.int .i64 0,.int .i64 0,.int .i64 0,.int .i64 0] 34):=⟨_,rfl⟩
 have H2:Hid (SeenAt b w 0 w2):=hid (by
  refine⟨?_,?_,by rw[hw2];exact((aoi _ w).alloc (aof _) _).alloc oz _⟩
  ·have:=World.alloc_heap_new (w.alloc (.cells #[.int .i64 0,.int .i64 0,.int .i64 0,.int .i64 0] 34)) (.cells #[.int .i64 0,.int .i64 0,.int .i64 0,.int .i64 0] 34);rw[aoq]at this;rw[hw2];exact this
  rw[hw2];exact(aop _ _ _ oz).trans (World.alloc_heap_new w _))
 have HW2:=hid hw2;clear hw2;go_enter func79,ntmps79;go_wp2_with fail
 rw[<-HW2.out];go_loopw [4] (fun i wr=>∃k:Nat,k<=4/\i= .int .i64 k/\Hid (SeenAt b w k wr)) (fun i _=>4-(intOf i).toNat)
 case atStart=>exact⟨0,aot _,rfl,H2⟩
 case round=>
  obtain⟨k,hk,rfl,ho⟩:=hrel;by_cases hlt:k<4
  ·have hlt2:(k:Int)<4:=om;have hge:(0:Int)<=(k:Int):=om;have R1:=hid (HRF.out.below ho.out.below);have q1:=R1.out.cell hlt;obtain⟨a1,c1,e1⟩:=(R1.out.2 k hlt).shape
   rw[e1]at q1;have hlen:=HOK.out k hlt;have HNX:=hid (ho.out.next hlt)
   have x0:∃u,wr.cell? ⟨w.heap.size+1,k,none⟩=some u:=by
    rcases (show k=0\/k=1\/k=2\/k=3 by omega)with rfl|rfl|rfl|rfl<;>exact⟨_,heap_cell ho.out.cells rfl⟩
   obtain⟨u4,hu4⟩:=x0;have g0:wr.frozen? ⟨w.heap.size+1,k,none⟩=false:=by have h9:=ho.out.cells;simp[World.frozen?,h9]
   clear e1;generalize (b k).length=bl at *
   go_wp2;go_roundw
   case rel=>exact⟨k+1,om,by go_num,HNX⟩
   case measure=>simp[intOf];omega
  have e:k=4:=om;subst e;have r0:=heap_cell (j:=0) ho.out.res rfl;have r1:=heap_cell (j:=1) ho.out.res rfl;have r2:=heap_cell (j:=2) ho.out.res rfl;have r3:=heap_cell (j:=3) ho.out.res rfl;have g0:∀j,wr.frozen? ⟨w.heap.size,j,none⟩=false:=fun j=>by have h9:=ho.out.res;simp[World.frozen?,h9]
  have y0:wr.cell? ⟨w.heap.size+1,0,none⟩=some (.int .i64 ((b 0).length:Int)):=heap_cell (j:=0) ho.out.cells rfl;have y1:wr.cell? ⟨w.heap.size+1,1,none⟩=some (.int .i64 ((b 1).length:Int)):=heap_cell (j:=1) ho.out.cells rfl;have y2:wr.cell? ⟨w.heap.size+1,2,none⟩=some (.int .i64 ((b 2).length:Int)):=heap_cell (j:=2) ho.out.cells rfl;have y3:wr.cell? ⟨w.heap.size+1,3,none⟩=some (.int .i64 ((b 3).length:Int)):=heap_cell (j:=3) ho.out.cells rfl;go_wp2;refine bodyPost_ret (v:=.agg #[.int .i64 ((b 0).length:Int),.int .i64 ((b 1).length:Int),.int .i64 ((b 2).length:Int),.int .i64 ((b 3).length:Int)]) (by simp[results,results79,go_sem,r0,r1,r2,r3]) rfl ⟨rfl,?_⟩;exact a73 ho.out.below (aof _) _ _ _ _
theorem ajl(s P N C L:ByteArray)(e:Ent)(hP:P=itoaB (a07 e))(hN:N=itoaB (a0r e))(hC:C=itoaB (a0a e))(hL:L=a0b e):
  s++P++⟨#[32]⟩++N++⟨#[32]⟩++C++⟨#[32]⟩++L++⟨#[10]⟩=bsB (s.data.toList++a3G e):=by
 subst hP hN hC hL;apply ba_ext;simp[bsB,a3G,itoaB]
theorem a4i(a b:ByteArray)(h:a.size+b.size<=9223372036854775807)(W:World):(binOp .add 9 (.string a) (.string b)).run prog W= .ok (.string (a++b)) W:=by
 have h2:¬9223372036854775807<a.size+b.size:=om;go_simp
theorem rtext_any(P:Nat)(n:Int)(vs:Nat->Value)(b:a00)(w:World)(h:RfAt w P n vs b)(hok:a02 b):
  Calls prog 30 #[.pointer (some ⟨P,0,none⟩)] w fun e w'=>e= .returned (.string (a0z b))/\Below w.heap.size w w':=by
 have HB:=hid (a8g P n vs b w h hok);have HBD:=hid (fun e (he:e∈a06 b)=>a0y hok he);have HT:Hid (a0z b=bsB (a0Q (a06 b))):=hid rfl
 have hlen:(a06 b).length<=240:=by
  rw[a1j];unfold lenB;have h0:=(hok 0 om).len
  have h1:=(hok 1 om).len
  have h2:=(hok 2 om).len
  have h3:=(hok 3 om).len
  omega
 clear h hok;generalize a06 b=l at *;rw[HT.out];clear HT;go_enter func30,ntmps30;go_wp2_with fail
 refine HB.out.mono ?_;rintro e w1 ⟨v,rfl,hl1,_,hb1⟩;have HE1:=hid (hl1.ents om);have HB1:=hid hb1;obtain⟨a,c,rfl⟩:=HE1.out.shape;obtain⟨n9,hn⟩:∃n,n=l.length:=⟨_,rfl⟩
 have HN:=hid hn;rw[<-hn]at hlen⊢;clear hn hl1 hb1;go_wp2_with fail
 go_loopw [3,5] (fun s i wr=>∃k:Nat,k<=n9/\i= .int .i64 k/\s= .string (bsB (a0Q (l.take k)))/\Hid (Below w1.heap.size w1 wr)) (fun _ i _=>n9-(intOf i).toNat)
 case atStart=>exact⟨0,om,rfl,rfl,hid (aoi _ _)⟩
 case round=>
  obtain⟨k,hk,rfl,rfl,HBW⟩:=hrel;by_cases hlt:k<n9
  ·have hlt2:(k:Int)<(n9:Int):=om;have hkl:k<l.length:=by rw[<-HN.out];exact hlt
   obtain⟨g,o,cc,hv,p1,p2,p3,p4⟩:=(HE1.out.below HBW.out).entry hkl
   simp only[Value.slice.injEq]at hv;obtain⟨rfl,_,rfl⟩:=hv;have hmem:l.getD k noE∈l:=by rw[aoh,aoj hkl];exact aoZ hkl
   obtain⟨hp,hnn,hc,hln⟩:=HBD.out _ hmem;have hline:=a5m hln;rw[<-a05]at hline;have HTK:=hid (aao hkl)
   have hsz:(bsB (a0Q (l.take k))).size<=200 * 240:=by
    have h9:=a88 (l:=l.take k) (fun e he=>by
     obtain⟨q1,q2,q3,q4⟩:=HBD.out e (ap2 he);exact a6o ⟨q1,q2,q3⟩ q4)
    rw[a05];show (a0Q (l.take k)).length<=_
    rw[aoy]at h9;omega
   obtain⟨x,hx⟩:∃x:Ent,x=l.getD k noE:=⟨_,rfl⟩
   rw[<-hx]at p1 p2 p3 p4 hp hnn hc hline HTK;obtain⟨s,hs⟩:∃s,s=bsB (a0Q (l.take k)):=⟨_,rfl⟩
   rw[<-hs]at hsz⊢;obtain⟨SP,hSP⟩:∃s,s=itoaB (a07 x):=⟨_,rfl⟩
   obtain⟨SN,hSN⟩:∃s,s=itoaB (a0r x):=⟨_,rfl⟩
   obtain⟨SC,hSC⟩:∃s,s=itoaB (a0a x):=⟨_,rfl⟩
   obtain⟨SL,hSL⟩:∃s,s=a0b x:=⟨_,rfl⟩
   have HCAT:Hid (s++SP++⟨#[32]⟩++SN++⟨#[32]⟩++SC++⟨#[32]⟩++SL++⟨#[10]⟩=bsB (a0Q (l.take (k+1)))):=hid (by
    rw[ajl s SP SN SC SL x hSP hSN hSC hSL,HTK.out,hs];rfl)
   have y1:SP.size<=11:=by rw[hSP];exact a2G om om
   have y2:SN.size<=11:=by rw[hSN];exact a2G om om
   have y3:SC.size<=11:=by rw[hSC];exact a2G om om
   rw[<-hSL]at p4 hline;have HD1:Hid (∀W,Calls prog 50 #[.int .i64 (a07 x)] W fun e w'=>e= .returned (.string SP)/\Below W.heap.size W w'):=hid (by rw[hSP];exact fun W=>a2m _ W om om);have HD2:Hid (∀W,Calls prog 50 #[.int .i64 (a0r x)] W fun e w'=>e= .returned (.string SN)/\Below W.heap.size W w'):=hid (by rw[hSN];exact fun W=>a2m _ W om om);have HD3:Hid (∀W,Calls prog 50 #[.int .i64 (a0a x)] W fun e w'=>e= .returned (.string SC)/\Below W.heap.size W w'):=hid (by rw[hSC];exact fun W=>a2m _ W om om);have z1:s.size+SP.size<=9223372036854775807:=om;have z2:s.size+SP.size+1<=9223372036854775807:=om;have z3:s.size+SP.size+1+SN.size<=9223372036854775807:=om;have z4:s.size+SP.size+1+SN.size+1<=9223372036854775807:=om;have z5:s.size+SP.size+1+SN.size+1+SC.size<=9223372036854775807:=om;have z6:s.size+SP.size+1+SN.size+1+SC.size+1<=9223372036854775807:=om;have z7:s.size+SP.size+1+SN.size+1+SC.size+1+SL.size<=9223372036854775807:=om;have z8:s.size+SP.size+1+SN.size+1+SC.size+1+SL.size+1<=9223372036854775807:=om;have q1:=fun W=>a4i s SP (by first|exact z1|(simp only[ByteArray.size_append,show (ByteArray.mk #[32]).size=1 from rfl,show (ByteArray.mk #[10]).size=1 from rfl];exact z1)) W;have q2:=fun W=>a4i (s++SP) ⟨#[32]⟩ (by first|exact z2|(simp only[ByteArray.size_append,show (ByteArray.mk #[32]).size=1 from rfl,show (ByteArray.mk #[10]).size=1 from rfl];exact z2)) W;have q3:=fun W=>a4i (s++SP++⟨#[32]⟩) SN (by first|exact z3|(simp only[ByteArray.size_append,show (ByteArray.mk #[32]).size=1 from rfl,show (ByteArray.mk #[10]).size=1 from rfl];exact z3)) W
   have q4:=fun W=>a4i (s++SP++⟨#[32]⟩++SN) ⟨#[32]⟩ (by first|exact z4|(simp only[ByteArray.size_append,show (ByteArray.mk #[32]).size=1 from rfl,show (ByteArray.mk #[10]).size=1 from rfl];exact z4)) W;have q5:=fun W=>a4i (s++SP++⟨#[32]⟩++SN++⟨#[32]⟩) SC (by first|exact z5|(simp only[ByteArray.size_append,show (ByteArray.mk #[32]).size=1 from rfl,show (ByteArray.mk #[10]).size=1 from rfl];exact z5)) W;have q6:=fun W=>a4i (s++SP++⟨#[32]⟩++SN++⟨#[32]⟩++SC) ⟨#[32]⟩ (by first|exact z6|(simp only[ByteArray.size_append,show (ByteArray.mk #[32]).size=1 from rfl,show (ByteArray.mk #[10]).size=1 from rfl];exact z6)) W;have q7:=fun W=>a4i (s++SP++⟨#[32]⟩++SN++⟨#[32]⟩++SC++⟨#[32]⟩) SL (by first|exact z7|(simp only[ByteArray.size_append,show (ByteArray.mk #[32]).size=1 from rfl,show (ByteArray.mk #[10]).size=1 from rfl];exact z7)) W;have q8:=fun W=>a4i (s++SP++⟨#[32]⟩++SN++⟨#[32]⟩++SC++⟨#[32]⟩++SL) ⟨#[10]⟩ (by first|exact z8|(simp only[ByteArray.size_append,show (ByteArray.mk #[32]).size=1 from rfl,show (ByteArray.mk #[10]).size=1 from rfl];exact z8)) W;clear hp hnn hc hline hsz y1 y2 y3 hSP hSN hSC hSL hs hmem hln HTK;generalize a07 x=xp at *;generalize a0r x=xn at *;generalize a0a x=xc at *;have r1:∀W,KB wr W->W.cell? ⟨g,o+k * 4,none⟩=some (.int .i64 xp):=fun W hW=>keep_cell hW p1;have r2:∀W,KB wr W->W.cell? ⟨g,o+k * 4+1,none⟩=some (.int .i64 xn):=fun W hW=>keep_cell hW p2;have r3:∀W,KB wr W->W.cell? ⟨g,o+k * 4+2,none⟩=some (.int .i64 xc):=fun W hW=>keep_cell hW p3;have r4:∀W,KB wr W->W.cell? ⟨g,o+k * 4+3,none⟩=some (.string SL):=fun W hW=>keep_cell hW p4;clear p1 p2 p3 p4 hx;go_wp2;refine wp_region_held_drew (S:=KB wr) ot (KB.drew (KB.refl _)) (fun hHeld=>?_)
   refine tk [0,1,2,3,4,5,9,10,11,12,13,17,18,19,20,21,25,26,27,28,29] ?_;repeat (refine tkC hHeld (h:=?_);apply exq;(· intro W3 hS3;go_simp;try rfl);try simp only[gS])
   with_reducible refine tkE ?_
   refine wpAnyH_ready (rs:=[6]) ot oz ?_;refine(AllReadyH.cons rfl (fun K hK=>?_) AllReadyH.nil);go_simp;refine(HD1.out _).mono ?_
   rintro e w2 ⟨rfl,hb2⟩;have hk2:=KB.call (w:=wr) hHeld hb2;clear hb2;dsimp only;refine hK.out _ _ hk2 (fun hHeld=>?_);clear hK K hk2;try simp only[Act.put,aoF,aoU,aoN]
   refine tkV 7 (.string (s++SP)) hHeld (h1:=fun W3 hS3=>?_) (h:=?_)
   ·go_simp
   try simp only[gS]
   refine tkV 8 (.string (s++SP++⟨#[32]⟩)) hHeld (h1:=fun W3 hS3=>?_) (h:=?_)
   ·go_simp
   try simp only[gS]
   refine wpAnyH_ready (rs:=[14]) ot oz ?_;refine(AllReadyH.cons rfl (fun K hK=>?_) AllReadyH.nil);go_simp;refine(HD2.out _).mono ?_
   rintro e w2 ⟨rfl,hb2⟩;have hk2:=KB.call (w:=wr) hHeld hb2;clear hb2;dsimp only;refine hK.out _ _ hk2 (fun hHeld=>?_);clear hK K hk2;try simp only[Act.put,aoF,aoU,aoN]
   refine tkV 15 (.string (s++SP++⟨#[32]⟩++SN)) hHeld (h1:=fun W3 hS3=>?_) (h:=?_)
   ·go_simp
   try simp only[gS]
   refine tkV 16 (.string (s++SP++⟨#[32]⟩++SN++⟨#[32]⟩)) hHeld (h1:=fun W3 hS3=>?_) (h:=?_)
   ·go_simp
   try simp only[gS]
   refine wpAnyH_ready (rs:=[22]) ot oz ?_;refine(AllReadyH.cons rfl (fun K hK=>?_) AllReadyH.nil);go_simp;refine(HD3.out _).mono ?_
   rintro e w2 ⟨rfl,hb2⟩;have hk2:=KB.call (w:=wr) hHeld hb2;clear hb2;dsimp only;refine hK.out _ _ hk2 (fun hHeld=>?_);clear hK K hk2;try simp only[Act.put,aoF,aoU,aoN]
   refine tkV 23 (.string (s++SP++⟨#[32]⟩++SN++⟨#[32]⟩++SC)) hHeld (h1:=fun W3 hS3=>?_) (h:=?_)
   ·go_simp
   try simp only[gS]
   refine tkV 24 (.string (s++SP++⟨#[32]⟩++SN++⟨#[32]⟩++SC++⟨#[32]⟩)) hHeld (h1:=fun W3 hS3=>?_) (h:=?_)
   ·go_simp
   try simp only[gS]
   refine tkV 30 (.string (s++SP++⟨#[32]⟩++SN++⟨#[32]⟩++SC++⟨#[32]⟩++SL)) hHeld (h1:=fun W3 hS3=>?_) (h:=?_)
   ·go_simp
   try simp only[gS]
   refine tkV 31 (.string (s++SP++⟨#[32]⟩++SN++⟨#[32]⟩++SC++⟨#[32]⟩++SL++⟨#[10]⟩)) hHeld (h1:=fun W3 hS3=>?_) (h:=?_)
   ·go_simp
   try simp only[gS]
   refine tkV 32 (.string (s++SP++⟨#[32]⟩++SN++⟨#[32]⟩++SC++⟨#[32]⟩++SL++⟨#[10]⟩)) hHeld (h1:=fun W3 hS3=>?_) (h:=?_)
   ·go_simp
   try simp only[gS]
   refine wpAnyH_done ot ?_ _;try simp only[Exit.then]
   have HB5:=hid (HBW.out.trans (hHeld.mono HBW.out.size));clear hHeld;go_wp2;go_roundw
   case rel=>exact⟨k+1,om,by go_num,by rw[HCAT.out],HB5⟩
   case measure=>simp[intOf];omega
  obtain rfl:k=n9:=om;have HTA:Hid (l.take k=l):=hid (aou (by rw[<-HN.out];exact aof _));go_wp2;go_ret;exact⟨by rw[HTA.out];rfl,HB1.out.trans (HBW.out.mono HB1.out.size)⟩
end Go.Proofs.YtdfkaijeppdhaaaGreatDoor
