/- Part of the proof. -/
import Derived.Test.YtdfkaijeppdhaaaGreatDoorZHs27
import Derived.Shelf.SlIterI.Sorted
set_option maxRecDepth 100000
set_option maxHeartbeats 8000000

namespace Go.Proofs
open Proofs.Tryz Go.Shelf
def Tryz.lays189_ren:Go.Shelf.Ren:=⟨fun|189=>319|125=>122|257=>323|128=>162|129=>163|294=>324|295=>325|296=>326|297=>327|298=>328|299=>329|216=>330|300=>331|301=>332|328=>333|329=>205|330=>206|331=>334|332=>335|215=>164|343=>336|n=>n,fun|28=>122|3=>3|46=>189|0=>0|51=>30|53=>211|4=>4|183=>221|182=>220|131=>116|5=>5|9=>9|218=>261|222=>265|228=>292|229=>293|n=>n,fun|n=>n⟩
theorem lays189:Go.Proofs.Lays.n189 prog Tryz.lays189_ren:={
 mixed:=ot
 f125:=func122.trans oq
 f128:=func162.trans oq
 f129:=func163.trans oq
 f189:=func319.trans oq
 f215:=func164.trans oq
 f216:=func330.trans oq
 f257:=func323.trans oq
 f294:=func324.trans oq
 f295:=func325.trans oq
 f296:=func326.trans oq
 f297:=func327.trans oq
 f298:=func328.trans oq
 f299:=func329.trans oq
 f300:=func331.trans oq
 f301:=func332.trans oq
 f328:=func333.trans oq
 f329:=func205.trans oq
 f330:=func206.trans oq
 f331:=func334.trans oq
 f332:=func335.trans oq
 f343:=func336.trans oq
 t0:=underlying0
 a0:=isAgg0
 z0:=sizeOf0
 v0:=zeroValue0
 t3:=underlying3
 a3:=isAgg3
 z3:=sizeOf3
 v3:=zeroValue3
 t4:=underlying4
 a4:=isAgg4
 z4:=sizeOf4
 v4:=zeroValue4
 t5:=underlying5
 a5:=isAgg5
 z5:=sizeOf5
 v5:=zeroValue5
 t9:=underlying9
 a9:=isAgg9
 z9:=sizeOf9
 v9:=zeroValue9
 t28:=underlying122
 a28:=isAgg122
 z28:=sizeOf122
 v28:=zeroValue122
 t46:=underlying189
 a46:=isAgg189
 z46:=sizeOf189
 v46:=zeroValue189
 t51:=underlying30
 a51:=isAgg30
 z51:=sizeOf30
 v51:=zeroValue30
 t53:=underlying211
 a53:=isAgg211
 z53:=sizeOf211
 v53:=zeroValue211
 t131:=underlying116
 a131:=isAgg116
 z131:=sizeOf116
 v131:=zeroValue116
 t182:=underlying220
 a182:=isAgg220
 z182:=sizeOf220
 v182:=zeroValue220
 t183:=underlying221
 a183:=isAgg221
 z183:=sizeOf221
 v183:=zeroValue221
 t218:=underlying261
 a218:=isAgg261
 z218:=sizeOf261
 v218:=zeroValue261
 t222:=underlying265
 a222:=isAgg265
 z222:=sizeOf265
 v222:=zeroValue265
 t228:=underlying292
 a228:=isAgg292
 z228:=sizeOf292
 v228:=zeroValue292
 t229:=underlying293
 a229:=isAgg293
 z229:=sizeOf293
 v229:=zeroValue293}
open Go.Sort Go.RowKit in
theorem Tryz.slices_Sort_int(blk off cap:Nat)(zs:List Int)(w:World)(hH:Holds (Value.int .i64) w blk off zs.toArray)(hblk:blk<w.heap.size)(hsz:zs.length<4611686018427387904):
  Calls prog 319 #[.slice (some ⟨blk,off,none⟩) zs.length cap] w fun e w'=>
   e= .returned (.tuple #[])/\∃n os,w'=grow (putRow (Value.int .i64) (Sort.ahead w n) blk off (zs.mergeSort fun x y=>decide (x<=y)).toArray) os:=Any.slices_Sort_int lays189 blk off cap zs w hH hblk hsz
theorem Tryz.slices_Sort_int_none(p:Option Addr)(cap:Nat)(w:World):
  Calls prog 319 #[.slice p 0 cap] w fun e w'=>e= .returned (.tuple #[])/\w'=w:=Any.slices_Sort_int_none lays189 p cap w
end Go.Proofs
namespace Go.Proofs.YtdfkaijeppdhaaaGreatDoor.Fd
open Lib (hid)
open Proofs.Tryz Go.RowKit Go.Shelf Go.Sort
attribute [local go_sem] Oper.semAt_some
theorem abO{zs:List Int}{k:Nat}(h:k<zs.length):zs.take (k+1)=zs.take k++[zs.getD k 0]:=by
 rw[aon h,aoh,aoj h];rfl
theorem ahr(F:Fence)(n:Nat)(h7:F.fn 320)(hro:F.round=none)(hn:1<=n)(l Bs n0:Nat)(a:Option Addr)(cap:Nat)(zs:List Int)(hl:zs.length<=9223372036854775807)(J Jx:List Int->World->Prop)
  (hY:∀pre x W,J pre W->pre.length<zs.length->YieldAt F (n-1) prog l #[.int .i64 x] W fun e W'=>
   (e= .returned (.bool true)/\J (pre++[x]) W'/\Below n0 W W')\/(e= .returned (.bool false)/\Jx (pre++[x]) W'))
  (W:World)(hBs:W.cell? ⟨Bs,0,none⟩=some (.slice a zs.length cap))(hc:0<zs.length->∃b off,a=some ⟨b,off,none⟩/\b<n0/\∀j,j<zs.length->W.cell? ⟨b,off+j,none⟩=some (.int .i64 (zs.getD j 0)))(h0:J [] W):
  CallsIn F n prog 320 #[.func (.yield l) #[] #[],.pointer (some ⟨Bs,0,none⟩)] W fun e W'=>(∃v,e= .returned v)/\
   ((∃ys,ys=zs/\J ys W')\/(∃pre,pre<+:zs/\Jx pre W')):=by
 refine callsIn_of_wp func320 rfl h7 ?_ hro;simp only[ntmps320,ape,aom,aow,Nat.reduceAdd,Nat.reduceSub,ap3,ap4,apf,ap7,aoM,aoA];have HC:=hid hc;clear hc;gi_wp2;gi_loopw [7] (fun i wr=>∃k:Nat,k<=zs.length/\i= .int .i64 k/\J (zs.take k) wr/\Below n0 W wr) (fun i _=>zs.length-(intOf i).toNat)
 case atStart=>exact⟨0,aot _,rfl,h0,aoi _ _⟩
 case round=>
  obtain⟨k,hk,rfl,hJs,hnx⟩:=hrel;by_cases hlt:k<zs.length
  ·obtain⟨b,off,rfl,hb,hcs⟩:=HC.out om;have hcx:=(hnx.cell (p:=⟨b,off+k,none⟩) hb).trans (hcs k hlt)
   have T:=hid (abO hlt);clear hcs;generalize zs.getD k 0=x at *;obtain⟨fn,tmps,assign,body,hy,hR⟩:=hY _ x wr hJs km;gi_wp2;refine hR.mono ?_;rintro e W3 (⟨rfl,hJ3,hk3⟩|⟨rfl,hJx3⟩)
   ·gi_wp2;go_roundw
    case rel=>exact⟨k+1,om,by go_num,by rw[T.out];exact hJ3,hnx.trans hk3⟩
    case measure=>simp[intOf];omega
   gi_wp2;refine bodyPost_ret (results_none rfl _ _ _) rfl ?_;exact⟨⟨_,rfl⟩,.inr ⟨_,by rw[<-T.out];exact List.take_prefix _ _,hJx3⟩⟩
  obtain rfl:k=zs.length:=om;gi_wp2;go_end0
  exact⟨⟨_,rfl⟩,.inl ⟨_,aoK,hJs⟩⟩
theorem ajR(F:Fence)(n:Nat)(h5:F.fn 315)(hro:F.round=none)(a:Option Addr)(len cap:Nat)(w:World):
  CallsIn F n prog 315 #[.slice a len cap] w fun e w'=>e= .returned (.func (.func 320) #[] #[.pointer (some ⟨w.heap.size,0,none⟩)])/\w'=w.alloc (.cells #[.slice a len cap] 122):=by
 refine callsIn_of_wp func315 rfl h5 ?_ hro;simp only[ntmps315,ape,aom,aow,Nat.reduceAdd,Nat.reduceSub,ap3,ap4,apf,ap7,aoM,aoA];gi_wp2;go_ret;exact⟨rfl,rfl⟩
theorem aeh(F:Fence)(n:Nat)(h7:F.fn 320)(hro:F.round=none)(hn:1<=n)(Bs n0:Nat)(v:Value)(zs:List Int)(w:World)(hBs:Bs<w.heap.size)(hn0:n0<=w.heap.size)
  (hc:w.cell? ⟨Bs,0,none⟩=some v)(w0:World)(hI:IntsAt w0 v zs)(h00:w0.heap.size<=n0)(hb0:Below w0.heap.size w0 w):
  SeqStopsK F n prog 320 #[.pointer (some ⟨Bs,0,none⟩)] (fun x:Int=>#[Value.int .i64 x]) (Below n0) (fun ys=>ys=zs) (fun pre=>pre<+:zs) zs.length w:=fun l J Jx W hW _ _ hY h0=>by
 have hc':=(hW.cell (p:=⟨Bs,0,none⟩) hBs).trans hc
 obtain⟨a,cap,rfl,hl,hq⟩:=hI;refine ahr F n h7 hro hn l Bs n0 a cap zs hl J Jx hY W hc' (fun h=>?_) h0;obtain⟨b,off,rfl,hcs⟩:=hq h;have hb:b<w0.heap.size:=World.block_lt_of_cell? _ _ (hcs 0 h);exact⟨b,off,rfl,om,fun j hj=>keep_cell (hb0.trans (hW.mono om)) (hcs j hj)⟩
theorem Tryz.infoInt:(prog.info? 3).map (fun i=>(i.zero,i.size,i.bytes))=some (some (.int .i64 0),1,8):=ot
theorem aei(F:Fence)(n:Nat)(h3:F.fn 322)(h5:F.fn 320)(hro:F.round=none)(hn:3<=n)(Bs:Nat)(v:Value)(zs:List Int)(hlen:zs.length<=1000)(w:World)(hBs:Bs<w.heap.size)
  (hc:w.cell? ⟨Bs,0,none⟩=some v)(hI:IntsAt w v zs):
  CallsIn F n prog 322 #[.slice none 0 0,.func (.func 320) #[] #[.pointer (some ⟨Bs,0,none⟩)]] w fun e W'=>∃v',e= .returned v'/\W'.ownsRow w.heap.size 3 1 v' zs.length (zs.map (Value.int .i64))/\(v'= .slice none 0 0↔zs=[])/\Below w.heap.size w W':=by
 have h1:1<=n:=om;obtain⟨i0,hi,hz0,hz1,hz2⟩:=info_parts Tryz.infoInt;refine callsIn_of_wp_marks func322 rfl h3 ?_ hro;simp only[ntmps322,ape,aom,aow,Nat.reduceAdd,Nat.reduceSub,ap3,ap4,apf,ap7,aoM,aoA];gi_wp2;have bO:=Boxed.new w 122 (.slice none 0 0);have hB0:Below w.heap.size w (w.alloc (.cells #[.slice none 0 0] 122)):=(aoi _ w).alloc (aof _) _
 refine wpIn_rangeFunc_ownG hro h1 (gf:=320) (lb:=#[.pointer (some ⟨Bs,0,none⟩)]) rfl h5 (enters_of func320 ot rfl)
  (aeh F (n-1) h5 hro om Bs w.heap.size v zs _ km oz ((hB0.cell (p:=⟨Bs,0,none⟩) hBs).trans hc) w hI (aof _) hB0) belowK_t (belowK_b oz) (aoi _ _) (fun _=>rfl)
  (fun pre W=>(∃v,Boxed W w.heap.size 122 v/\W.ownsRow w.heap.size 3 1 v pre.length (pre.map (Value.int .i64))/\(v= .slice none 0 0↔pre=[]))/\Below w.heap.size w W)
  (fun _ _ _=>False)
  (OwnFrom.and (Own.from (holdsRow_own w.heap.size w.heap.size 122 3 1 (fun pre=>pre.length) (fun pre=>pre.map (Value.int .i64)) (fun pre v=>v= .slice none 0 0↔pre=[])) _) (ownFrom_below (aof _) oz))
  (fun _ _ _ _ _ hs _ _=>hs)
  ⟨⟨_,bO,World.ownsRow_nil _ _ _ _,by simp⟩,hB0⟩
  (fun x=>{tmps:=#[.slice none 0 0,.func (.func 320) #[] #[.pointer (some ⟨Bs,0,none⟩)],.pointer (some ⟨w.heap.size,0,none⟩),undef,.slice none 0 0,.int .i64 x,.func (.func 320) #[] #[.pointer (some ⟨Bs,0,none⟩)],.int .i64 x,undef,undef,undef,undef,undef],defers:=[]}) ?assign ?body ?done ?stop
 case assign=>
  intro l x W K hK;gi_wp2;exact hK
 case body=>
  rintro l pre x W ⟨⟨v,hv,hrow,hnil⟩,hB⟩ hlt;have hc:=hv.cell;gi_wp2_with (gi_at_builtin;refine wpListIn_append_own _ rfl _ _ 122 rfl w.heap.size 3 i0 (.int .i64 0) 1 8 underlying122 hi hz0 hz1 hz2 rfl ox _ _ _ rfl (hrow.alloc _) ⟨W.heap.size,0,none⟩ 1 1 [.int .i64 x] rfl rfl (a0h _ _ _) (by simp[Value.oneCell']) (by unfold maxLen;omega) om (by have:=hB.size;simp;omega) ?_;intro v' w1 hown' hgrow _;obtain⟨g',cap',rfl⟩:=ownsRow_succ hown';obtain⟨hv1,hv2,hr2,hk2,hb2⟩:=hv.appended ox hrow hB.size (aof _) hown' hgrow;have hc1:=hv1.cell;have hf1:=hv1.frozen)
  exact⟨hk2.from _,hb2,⟨_,hv2,by simpa using hr2,by simp⟩,hB.trans hb2⟩
 case done=>
  rintro D ys W hD rfl ⟨⟨v,hv,hrow,hnil⟩,hB⟩ hK;have hc:=hv.cell;gi_wp2;refine⟨by simp,.inl ⟨_,_,rfl,run_takeDeferred hK,?_⟩⟩;exact⟨_,results_tmp rfl _ _ _,v,rfl,ownsRow_putObj hrow _ hK rfl,hnil,hB.trans (belowK_b (w:=w) (aof _) W D _ _ (by simp at hD;omega) hK rfl rfl)⟩
 case stop=>
  rintro D c pre W _ _ h _;exact h.elim
theorem ad8(Bs:Nat)(v:Value)(zs:List Int)(hlen:zs.length<=1000)(w:World)(hc:w.cell? ⟨Bs,0,none⟩=some v)(hI:IntsAt w v zs):
  Calls prog 322 #[.slice none 0 0,.func (.func 320) #[] #[.pointer (some ⟨Bs,0,none⟩)]] w fun e W'=>∃v',e= .returned v'/\W'.ownsRow w.heap.size 3 1 v' zs.length (zs.map (Value.int .i64))/\(v'= .slice none 0 0↔zs=[])/\Below w.heap.size w W':=
 (callsIn_wide (n:=4)).1 (aei Fence.wide 4 trivial trivial rfl om Bs v zs hlen w (World.block_lt_of_cell? _ _ hc) hc hI)
theorem ahs(v:Value)(zs:List Int)(w:World)(hI:IntsAt w v zs):
  Calls prog 315 #[v] w fun e w'=>e= .returned (.func (.func 320) #[] #[.pointer (some ⟨w.heap.size,0,none⟩)])/\w'=w.alloc (.cells #[v] 122):=by
 obtain⟨a,cap,rfl,hl,hq⟩:=hI;exact(callsIn_wide (n:=4)).1 (ajR Fence.wide 4 trivial rfl a _ cap w)
theorem afw(Bs:Nat)(v:Value)(zs:List Int)(hlen:zs.length<=1000)(w:World)(hc:w.cell? ⟨Bs,0,none⟩=some v)(hI:IntsAt w v zs):
  Calls prog 318 #[.func (.func 320) #[] #[.pointer (some ⟨Bs,0,none⟩)]] w fun e W'=>∃v',e= .returned v'/\W'.ownsRow w.heap.size 3 1 v' zs.length (zs.map (Value.int .i64))/\(v'= .slice none 0 0↔zs=[])/\Below w.heap.size w W':=by
 have A:=hid (ad8 Bs v zs hlen w hc hI);clear hc hI;go_enter func318,ntmps318;go_wp2_with fail
 refine A.out.mono ?_;rintro e w1 ⟨v1,rfl,hrow,hnil,hb1⟩;have HR:=hid hrow;have HN:=hid hnil;clear hrow hnil;go_wp2;go_ret;exact⟨_,rfl,HR.out,HN.out,hb1⟩
def srt(zs:List Int):List Int:=zs.mergeSort fun x y=>decide (x<=y)
theorem a5s(zs:List Int):(srt zs).length=zs.length:=(List.mergeSort_perm _ _).length_eq
theorem aht(Bs:Nat)(v:Value)(zs:List Int)(hlen:zs.length<=1000)(w:World)(hc:w.cell? ⟨Bs,0,none⟩=some v)(hI:IntsAt w v zs):
  Calls prog 314 #[.func (.func 320) #[] #[.pointer (some ⟨Bs,0,none⟩)]] w fun e W'=>∃v',e= .returned v'/\W'.ownsRow w.heap.size 3 1 v' (srt zs).length ((srt zs).map (Value.int .i64))/\Below w.heap.size w W':=by
 have A:=hid (afw Bs v zs hlen w hc hI);clear hc hI;go_enter func314,ntmps314;go_wp2_with fail
 refine A.out.mono ?_;rintro e W ⟨v1,rfl,hrow,hnil,hb1⟩;clear A;rcases hrow.2 with⟨rfl,hz⟩|⟨gb,cap,cur,rfl,hbase,hgb,r1,r2,r3,r4⟩
 ·have hss:zs=[]:=List.eq_nil_of_length_eq_zero hz;subst hss;have HR:=hid hrow;clear hrow hnil hz;go_wp2_with fail
  refine(Tryz.slices_Sort_int_none _ _ _).mono ?_
  rintro e w' ⟨rfl,rfl⟩;go_wp2;go_ret;exact⟨.slice none 0 0,rfl,by rw[show srt []=[]from by simp[srt]];exact HR.out,hb1⟩
 have hH:Holds (Value.int .i64) W gb 0 zs.toArray:=holds_of_block_i hgb (by simpa using r4);have hgl:gb<W.heap.size:=(aog.1 hgb).1
 have cS:=hid (Tryz.slices_Sort_int gb 0 cap zs W hH hgl om);have HR:=hid (fun(n:Nat) (os:Array Obj)=>ownsRow_sorted_i (n:=n) (os:=os) (a5s zs) hbase hgb r1 r2 r3);have HB:=hid hb1;clear hrow hnil hgb r3 r4 hH;go_wp2_with fail
 refine cS.out.mono ?_;rintro e w' ⟨rfl,nn,os,rfl⟩;have R:=hid (HR.out nn os);have B:=hid (HB.out.grown (grownBy_sorted_i (n:=nn) (os:=os) (srt zs).toArray) HB.out.size (fun j hj=>by cases hj;exact hbase));change Hid (World.ownsRow (grow (putRow (Value.int .i64) (Sort.ahead W nn) gb 0 (srt zs).toArray) os) _ _ _ _ _ _)at R;change Hid (Below _ _ (grow (putRow (Value.int .i64) (Sort.ahead W nn) gb 0 (srt zs).toArray) os))at B;generalize hWW:grow (putRow (Value.int .i64) (Sort.ahead W nn) gb 0 (zs.mergeSort fun x y=>decide (x<=y)).toArray) os=WW;have hWW':grow (putRow (Value.int .i64) (Sort.ahead W nn) gb 0 (srt zs).toArray) os=WW:=hWW;rw[hWW']at R B;clear hWW hWW';go_wp2;go_ret;exact⟨_,rfl,by rw[a5s];exact R.out,B.out⟩
end Go.Proofs.YtdfkaijeppdhaaaGreatDoor.Fd
