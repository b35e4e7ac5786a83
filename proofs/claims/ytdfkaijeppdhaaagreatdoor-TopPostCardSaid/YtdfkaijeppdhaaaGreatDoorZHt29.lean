/- Part of the proof. -/
import Derived.Test.YtdfkaijeppdhaaaGreatDoorZHt27
import Derived.Shelf.SlIterI.Sorted
set_option maxRecDepth 100000
set_option maxHeartbeats 8000000

namespace Go.Proofs
open Go.Shelf
def Tryz.lays189_ren:Go.Shelf.Ren:=⟨fun|189=>319|125=>122|257=>323|128=>162|129=>163|294=>324|295=>325|296=>326|297=>327|298=>328|299=>329|216=>330|300=>331|301=>332|328=>333|329=>205|330=>206|331=>334|332=>335|215=>164|343=>336|n=>n,fun|28=>122|3=>3|46=>189|0=>0|51=>30|53=>211|4=>4|183=>221|182=>220|131=>116|5=>5|9=>9|218=>261|222=>265|228=>292|229=>293|n=>n,fun|n=>n⟩
theorem Tryz.lays189:Go.Proofs.Lays.n189 Tryz.prog Tryz.lays189_ren:={
 mixed:=by kernel_rfl
 f125:=Tryz.func122.trans (congrArg some (by kernel_rfl))
 f128:=Tryz.func162.trans (congrArg some (by kernel_rfl))
 f129:=Tryz.func163.trans (congrArg some (by kernel_rfl))
 f189:=Tryz.func319.trans (congrArg some (by kernel_rfl))
 f215:=Tryz.func164.trans (congrArg some (by kernel_rfl))
 f216:=Tryz.func330.trans (congrArg some (by kernel_rfl))
 f257:=Tryz.func323.trans (congrArg some (by kernel_rfl))
 f294:=Tryz.func324.trans (congrArg some (by kernel_rfl))
 f295:=Tryz.func325.trans (congrArg some (by kernel_rfl))
 f296:=Tryz.func326.trans (congrArg some (by kernel_rfl))
 f297:=Tryz.func327.trans (congrArg some (by kernel_rfl))
 f298:=Tryz.func328.trans (congrArg some (by kernel_rfl))
 f299:=Tryz.func329.trans (congrArg some (by kernel_rfl))
 f300:=Tryz.func331.trans (congrArg some (by kernel_rfl))
 f301:=Tryz.func332.trans (congrArg some (by kernel_rfl))
 f328:=Tryz.func333.trans (congrArg some (by kernel_rfl))
 f329:=Tryz.func205.trans (congrArg some (by kernel_rfl))
 f330:=Tryz.func206.trans (congrArg some (by kernel_rfl))
 f331:=Tryz.func334.trans (congrArg some (by kernel_rfl))
 f332:=Tryz.func335.trans (congrArg some (by kernel_rfl))
 f343:=Tryz.func336.trans (congrArg some (by kernel_rfl))
 t0:=Tryz.underlying0
 a0:=Tryz.isAgg0
 z0:=Tryz.sizeOf0
 v0:=Tryz.zeroValue0
 t3:=Tryz.underlying3
 a3:=Tryz.isAgg3
 z3:=Tryz.sizeOf3
 v3:=Tryz.zeroValue3
 t4:=Tryz.underlying4
 a4:=Tryz.isAgg4
 z4:=Tryz.sizeOf4
 v4:=Tryz.zeroValue4
 t5:=Tryz.underlying5
 a5:=Tryz.isAgg5
 z5:=Tryz.sizeOf5
 v5:=Tryz.zeroValue5
 t9:=Tryz.underlying9
 a9:=Tryz.isAgg9
 z9:=Tryz.sizeOf9
 v9:=Tryz.zeroValue9
 t28:=Tryz.underlying122
 a28:=Tryz.isAgg122
 z28:=Tryz.sizeOf122
 v28:=Tryz.zeroValue122
 t46:=Tryz.underlying189
 a46:=Tryz.isAgg189
 z46:=Tryz.sizeOf189
 v46:=Tryz.zeroValue189
 t51:=Tryz.underlying30
 a51:=Tryz.isAgg30
 z51:=Tryz.sizeOf30
 v51:=Tryz.zeroValue30
 t53:=Tryz.underlying211
 a53:=Tryz.isAgg211
 z53:=Tryz.sizeOf211
 v53:=Tryz.zeroValue211
 t131:=Tryz.underlying116
 a131:=Tryz.isAgg116
 z131:=Tryz.sizeOf116
 v131:=Tryz.zeroValue116
 t182:=Tryz.underlying220
 a182:=Tryz.isAgg220
 z182:=Tryz.sizeOf220
 v182:=Tryz.zeroValue220
 t183:=Tryz.underlying221
 a183:=Tryz.isAgg221
 z183:=Tryz.sizeOf221
 v183:=Tryz.zeroValue221
 t218:=Tryz.underlying261
 a218:=Tryz.isAgg261
 z218:=Tryz.sizeOf261
 v218:=Tryz.zeroValue261
 t222:=Tryz.underlying265
 a222:=Tryz.isAgg265
 z222:=Tryz.sizeOf265
 v222:=Tryz.zeroValue265
 t228:=Tryz.underlying292
 a228:=Tryz.isAgg292
 z228:=Tryz.sizeOf292
 v228:=Tryz.zeroValue292
 t229:=Tryz.underlying293
 a229:=Tryz.isAgg293
 z229:=Tryz.sizeOf293
 v229:=Tryz.zeroValue293}
open Go.Sort Go.RowKit in
theorem Tryz.slices_Sort_int(blk off cap:Nat)(zs:List Int)(w:World)(hH:Holds (Value.int .i64) w blk off zs.toArray)(hblk:blk<w.heap.size)(hsz:zs.length<4611686018427387904):
  Calls Tryz.prog 319 #[.slice (some ⟨blk,off,none⟩) zs.length cap] w fun e w'=>
   e= .returned (.tuple #[])/\∃n os,w'=grow (putRow (Value.int .i64) (Sort.ahead w n) blk off (zs.mergeSort fun x y=>decide (x<=y)).toArray) os:=Any.slices_Sort_int Tryz.lays189 blk off cap zs w hH hblk hsz
theorem Tryz.slices_Sort_int_none(p:Option Addr)(cap:Nat)(w:World):
  Calls Tryz.prog 319 #[.slice p 0 cap] w fun e w'=>e= .returned (.tuple #[])/\w'=w:=Any.slices_Sort_int_none Tryz.lays189 p cap w
end Go.Proofs
namespace Go.Proofs.YtdfkaijeppdhaaaGreatDoor.Fd
open Go.RowKit Go.Shelf Go.Sort
open Lib (hid)
attribute [local go_sem] Oper.semAt_some
theorem aa4{zs:List Int}{k:Nat}(h:k<zs.length):zs.take (k+1)=zs.take k++[zs.getD k 0]:=by
 rw[alC h,abs,alz h];rfl
theorem afw(F:Fence)(n:Nat)(h7:F.fn 320)(hro:F.round=none)(hn:1<=n)(l Bs n0:Nat)(a:Option Addr)(cap:Nat)(zs:List Int)(hl:zs.length<=9223372036854775807)(J Jx:List Int->World->Prop)
  (hY:∀pre x W,J pre W->pre.length<zs.length->YieldAt F (n-1) Tryz.prog l #[.int .i64 x] W fun e W'=>
   (e= .returned (.bool true)/\J (pre++[x]) W'/\Below n0 W W')\/(e= .returned (.bool false)/\Jx (pre++[x]) W'))
  (W:World)(hBs:W.cell? ⟨Bs,0,none⟩=some (.slice a zs.length cap))(hc:0<zs.length->∃b off,a=some ⟨b,off,none⟩/\b<n0/\∀j,j<zs.length->W.cell? ⟨b,off+j,none⟩=some (.int .i64 (zs.getD j 0)))(h0:J [] W):
  CallsIn F n Tryz.prog 320 #[.func (.yield l) #[] #[],.pointer (some ⟨Bs,0,none⟩)] W fun e W'=>(∃v,e= .returned v)/\
   ((∃ys,ys=zs/\J ys W')\/(∃pre,pre<+:zs/\Jx pre W')):=by
 refine callsIn_of_wp Tryz.func320 rfl h7 ?_ hro;simp only[Tryz.ntmps320,amp,alB,alH,Nat.reduceAdd,Nat.reduceSub,ame,amf,amq,amj,alY,alM];have HC:=hid hc;clear hc;gi_wp2;gi_loopw [7] (fun i wr=>∃k:Nat,k<=zs.length/\i= .int .i64 k/\J (zs.take k) wr/\Below n0 W wr) (fun i _=>zs.length-(intOf i).toNat)
 case atStart=>exact⟨0,alE _,rfl,h0,apC _ _⟩
 case round=>
  obtain⟨k,hk,rfl,hJs,hnx⟩:=hrel;by_cases hlt:k<zs.length
  ·obtain⟨b,off,rfl,hb,hcs⟩:=HC.out (by omega);have hcx:=(hnx.cell (p:=⟨b,off+k,none⟩) hb).trans (hcs k hlt)
   have T:=hid (aa4 hlt);clear hcs;generalize zs.getD k 0=x at *;obtain⟨fn,tmps,assign,body,hy,hR⟩:=hY _ x wr hJs (by simp;omega);gi_wp2;refine hR.mono ?_;rintro e W3 (⟨rfl,hJ3,hk3⟩|⟨rfl,hJx3⟩)
   ·gi_wp2;go_roundw
    case rel=>exact⟨k+1,by omega,by go_num,by rw[T.out];exact hJ3,hnx.trans hk3⟩
    case measure=>simp[intOf];omega
   gi_wp2;refine bodyPost_ret (results_none rfl _ _ _) rfl ?_;exact⟨⟨_,rfl⟩,.inr ⟨_,by rw[<-T.out];exact List.take_prefix _ _,hJx3⟩⟩
  obtain rfl:k=zs.length:=by omega
  gi_wp2;go_end0
  exact⟨⟨_,rfl⟩,.inl ⟨_,alV,hJs⟩⟩
theorem ahZ(F:Fence)(n:Nat)(h5:F.fn 315)(hro:F.round=none)(a:Option Addr)(len cap:Nat)(w:World):
  CallsIn F n Tryz.prog 315 #[.slice a len cap] w fun e w'=>e= .returned (.func (.func 320) #[] #[.pointer (some ⟨w.heap.size,0,none⟩)])/\w'=w.alloc (.cells #[.slice a len cap] 122):=by
 refine callsIn_of_wp Tryz.func315 rfl h5 ?_ hro;simp only[Tryz.ntmps315,amp,alB,alH,Nat.reduceAdd,Nat.reduceSub,ame,amf,amq,amj,alY,alM];gi_wp2;go_ret;exact⟨rfl,rfl⟩
theorem acv(F:Fence)(n:Nat)(h7:F.fn 320)(hro:F.round=none)(hn:1<=n)(Bs n0:Nat)(v:Value)(zs:List Int)(w:World)(hBs:Bs<w.heap.size)(hn0:n0<=w.heap.size)
  (hc:w.cell? ⟨Bs,0,none⟩=some v)(w0:World)(hI:IntsAt w0 v zs)(h00:w0.heap.size<=n0)(hb0:Below w0.heap.size w0 w):
  SeqStopsK F n Tryz.prog 320 #[.pointer (some ⟨Bs,0,none⟩)] (fun x:Int=>#[Value.int .i64 x]) (Below n0) (fun ys=>ys=zs) (fun pre=>pre<+:zs) zs.length w:=fun l J Jx W hW _ _ hY h0=>by
 have hc':=(hW.cell (p:=⟨Bs,0,none⟩) hBs).trans hc
 obtain⟨a,cap,rfl,hl,hq⟩:=hI;refine afw F n h7 hro hn l Bs n0 a cap zs hl J Jx hY W hc' (fun h=>?_) h0;obtain⟨b,off,rfl,hcs⟩:=hq h;have hb:b<w0.heap.size:=World.block_lt_of_cell? _ _ (hcs 0 h);exact⟨b,off,rfl,by omega,fun j hj=>keep_cell (hb0.trans (hW.mono (by omega))) (hcs j hj)⟩
theorem Tryz.infoInt:(Tryz.prog.info? 3).map (fun i=>(i.zero,i.size,i.bytes))=some (some (.int .i64 0),1,8):=by kernel_rfl
theorem acw(F:Fence)(n:Nat)(h3:F.fn 322)(h5:F.fn 320)(hro:F.round=none)(hn:3<=n)(Bs:Nat)(v:Value)(zs:List Int)(hlen:zs.length<=1000)(w:World)(hBs:Bs<w.heap.size)
  (hc:w.cell? ⟨Bs,0,none⟩=some v)(hI:IntsAt w v zs):
  CallsIn F n Tryz.prog 322 #[.slice none 0 0,.func (.func 320) #[] #[.pointer (some ⟨Bs,0,none⟩)]] w fun e W'=>∃v',e= .returned v'/\W'.ownsRow w.heap.size 3 1 v' zs.length (zs.map (Value.int .i64))/\(v'= .slice none 0 0↔zs=[])/\Below w.heap.size w W':=by
 have h1:1<=n:=by omega
 obtain⟨i0,hi,hz0,hz1,hz2⟩:=info_parts Tryz.infoInt;refine callsIn_of_wp_marks Tryz.func322 rfl h3 ?_ hro;simp only[Tryz.ntmps322,amp,alB,alH,Nat.reduceAdd,Nat.reduceSub,ame,amf,amq,amj,alY,alM];gi_wp2;have bO:=Boxed.new w 122 (.slice none 0 0);have hB0:Below w.heap.size w (w.alloc (.cells #[.slice none 0 0] 122)):=(apC _ w).alloc (aly _) _
 refine wpIn_rangeFunc_ownG hro h1 (gf:=320) (lb:=#[.pointer (some ⟨Bs,0,none⟩)]) rfl h5 (enters_of Tryz.func320 (by kernel_rfl) rfl)
  (acv F (n-1) h5 hro (by omega) Bs w.heap.size v zs _ (by simp;omega) (by simp) ((hB0.cell (p:=⟨Bs,0,none⟩) hBs).trans hc) w hI (aly _) hB0) belowK_t (belowK_b (by simp)) (apC _ _) (fun _=>rfl)
  (fun pre W=>(∃v,Boxed W w.heap.size 122 v/\W.ownsRow w.heap.size 3 1 v pre.length (pre.map (Value.int .i64))/\(v= .slice none 0 0↔pre=[]))/\Below w.heap.size w W)
  (fun _ _ _=>False)
  (OwnFrom.and (Own.from (holdsRow_own w.heap.size w.heap.size 122 3 1 (fun pre=>pre.length) (fun pre=>pre.map (Value.int .i64)) (fun pre v=>v= .slice none 0 0↔pre=[])) _) (ownFrom_below (aly _) (by simp)))
  (fun _ _ _ _ _ hs _ _=>hs)
  ⟨⟨_,bO,World.ownsRow_nil _ _ _ _,by simp⟩,hB0⟩
  (fun x=>{tmps:=#[.slice none 0 0,.func (.func 320) #[] #[.pointer (some ⟨Bs,0,none⟩)],.pointer (some ⟨w.heap.size,0,none⟩),undef,.slice none 0 0,.int .i64 x,.func (.func 320) #[] #[.pointer (some ⟨Bs,0,none⟩)],.int .i64 x,undef,undef,undef,undef,undef],defers:=[]}) ?assign ?body ?done ?stop
 case assign=>
  intro l x W K hK;gi_wp2;exact hK
 case body=>
  rintro l pre x W ⟨⟨v,hv,hrow,hnil⟩,hB⟩ hlt;have hc:=hv.cell;gi_wp2_with (gi_at_builtin;refine wpListIn_append_own _ rfl _ _ 122 rfl w.heap.size 3 i0 (.int .i64 0) 1 8 Tryz.underlying122 hi hz0 hz1 hz2 rfl (by decide) _ _ _ rfl (hrow.alloc _) ⟨W.heap.size,0,none⟩ 1 1 [.int .i64 x] rfl rfl (a09 _ _ _) (by simp[Value.oneCell']) (by unfold maxLen;omega) (by omega) (by have:=hB.size;simp;omega) ?_;intro v' w1 hown' hgrow _;obtain⟨g',cap',rfl⟩:=ownsRow_succ hown';obtain⟨hv1,hv2,hr2,hk2,hb2⟩:=hv.appended (by decide) hrow hB.size (aly _) hown' hgrow;have hc1:=hv1.cell;have hf1:=hv1.frozen)
  exact⟨hk2.from _,hb2,⟨_,hv2,by simpa using hr2,by simp⟩,hB.trans hb2⟩
 case done=>
  rintro D ys W hD rfl ⟨⟨v,hv,hrow,hnil⟩,hB⟩ hK;have hc:=hv.cell;gi_wp2;refine⟨by simp,.inl ⟨_,_,rfl,run_takeDeferred hK,?_⟩⟩;exact⟨_,results_tmp rfl _ _ _,v,rfl,ownsRow_putObj hrow _ hK rfl,hnil,hB.trans (belowK_b (w:=w) (aly _) W D _ _ (by simp at hD;omega) hK rfl rfl)⟩
 case stop=>
  rintro D c pre W _ _ h _;exact h.elim
theorem abk(Bs:Nat)(v:Value)(zs:List Int)(hlen:zs.length<=1000)(w:World)(hc:w.cell? ⟨Bs,0,none⟩=some v)(hI:IntsAt w v zs):
  Calls Tryz.prog 322 #[.slice none 0 0,.func (.func 320) #[] #[.pointer (some ⟨Bs,0,none⟩)]] w fun e W'=>∃v',e= .returned v'/\W'.ownsRow w.heap.size 3 1 v' zs.length (zs.map (Value.int .i64))/\(v'= .slice none 0 0↔zs=[])/\Below w.heap.size w W':=
 (callsIn_wide (n:=4)).1 (acw Fence.wide 4 trivial trivial rfl (by omega) Bs v zs hlen w (World.block_lt_of_cell? _ _ hc) hc hI)
theorem afx(v:Value)(zs:List Int)(w:World)(hI:IntsAt w v zs):
  Calls Tryz.prog 315 #[v] w fun e w'=>e= .returned (.func (.func 320) #[] #[.pointer (some ⟨w.heap.size,0,none⟩)])/\w'=w.alloc (.cells #[v] 122):=by
 obtain⟨a,cap,rfl,hl,hq⟩:=hI;exact(callsIn_wide (n:=4)).1 (ahZ Fence.wide 4 trivial rfl a _ cap w)
theorem adB(Bs:Nat)(v:Value)(zs:List Int)(hlen:zs.length<=1000)(w:World)(hc:w.cell? ⟨Bs,0,none⟩=some v)(hI:IntsAt w v zs):
  Calls Tryz.prog 318 #[.func (.func 320) #[] #[.pointer (some ⟨Bs,0,none⟩)]] w fun e W'=>∃v',e= .returned v'/\W'.ownsRow w.heap.size 3 1 v' zs.length (zs.map (Value.int .i64))/\(v'= .slice none 0 0↔zs=[])/\Below w.heap.size w W':=by
 have A:=hid (abk Bs v zs hlen w hc hI);clear hc hI;go_enter Tryz.func318,Tryz.ntmps318;go_wp2_with fail
 refine A.out.mono ?_;rintro e w1 ⟨v1,rfl,hrow,hnil,hb1⟩;have HR:=hid hrow;have HN:=hid hnil;clear hrow hnil;go_wp2;go_ret;exact⟨_,rfl,HR.out,HN.out,hb1⟩
def srt(zs:List Int):List Int:=zs.mergeSort fun x y=>decide (x<=y)
theorem a4n(zs:List Int):(srt zs).length=zs.length:=(List.mergeSort_perm _ _).length_eq
theorem afy(Bs:Nat)(v:Value)(zs:List Int)(hlen:zs.length<=1000)(w:World)(hc:w.cell? ⟨Bs,0,none⟩=some v)(hI:IntsAt w v zs):
  Calls Tryz.prog 314 #[.func (.func 320) #[] #[.pointer (some ⟨Bs,0,none⟩)]] w fun e W'=>∃v',e= .returned v'/\W'.ownsRow w.heap.size 3 1 v' (srt zs).length ((srt zs).map (Value.int .i64))/\Below w.heap.size w W':=by
 have A:=hid (adB Bs v zs hlen w hc hI);clear hc hI;go_enter Tryz.func314,Tryz.ntmps314;go_wp2_with fail
 refine A.out.mono ?_;rintro e W ⟨v1,rfl,hrow,hnil,hb1⟩;clear A;rcases hrow.2 with⟨rfl,hz⟩|⟨gb,cap,cur,rfl,hbase,hgb,r1,r2,r3,r4⟩
 ·have hss:zs=[]:=List.eq_nil_of_length_eq_zero hz;subst hss;have HR:=hid hrow;clear hrow hnil hz;go_wp2_with fail
  refine(Tryz.slices_Sort_int_none _ _ _).mono ?_
  rintro e w' ⟨rfl,rfl⟩;go_wp2;go_ret;exact⟨.slice none 0 0,rfl,by rw[show srt []=[]from by simp[srt]];exact HR.out,hb1⟩
 have hH:Holds (Value.int .i64) W gb 0 zs.toArray:=holds_of_block_i hgb (by simpa using r4);have hgl:gb<W.heap.size:=(alx.1 hgb).1
 have cS:=hid (Tryz.slices_Sort_int gb 0 cap zs W hH hgl (by omega));have HR:=hid (fun(n:Nat) (os:Array Obj)=>ownsRow_sorted_i (n:=n) (os:=os) (a4n zs) hbase hgb r1 r2 r3);have HB:=hid hb1;clear hrow hnil hgb r3 r4 hH;go_wp2_with fail
 refine cS.out.mono ?_;rintro e w' ⟨rfl,nn,os,rfl⟩;have R:=hid (HR.out nn os);have B:=hid (HB.out.grown (grownBy_sorted_i (n:=nn) (os:=os) (srt zs).toArray) HB.out.size (fun j hj=>by cases hj;exact hbase));change Hid (World.ownsRow (grow (putRow (Value.int .i64) (Sort.ahead W nn) gb 0 (srt zs).toArray) os) _ _ _ _ _ _)at R;change Hid (Below _ _ (grow (putRow (Value.int .i64) (Sort.ahead W nn) gb 0 (srt zs).toArray) os))at B;generalize hWW:grow (putRow (Value.int .i64) (Sort.ahead W nn) gb 0 (zs.mergeSort fun x y=>decide (x<=y)).toArray) os=WW;have hWW':grow (putRow (Value.int .i64) (Sort.ahead W nn) gb 0 (srt zs).toArray) os=WW:=hWW;rw[hWW']at R B;clear hWW hWW';go_wp2;go_ret;exact⟨_,rfl,by rw[a4n];exact R.out,B.out⟩
end Go.Proofs.YtdfkaijeppdhaaaGreatDoor.Fd
