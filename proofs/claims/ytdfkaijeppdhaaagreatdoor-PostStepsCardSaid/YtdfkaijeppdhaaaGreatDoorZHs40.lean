/- Part of the proof. -/
import Derived.Test.YtdfkaijeppdhaaaGreatDoorZHs39
set_option maxRecDepth 100000
set_option maxHeartbeats 8000000
set_option linter.unusedSimpArgs false
set_option linter.unusedVariables false

namespace Go.Proofs.YtdfkaijeppdhaaaGreatDoor
open Lib (hid)
open Proofs.Tryz Go.RowKit Go.Shelf
def a9X(kn:Kn)(ws:List ByteArray):ByteArray×Int:=match a0d (ws.getD 0 emp)with
 |none=>(emp,100)
 |some n=>if ws.length<2\/9<ws.length then (emp,100)else if (ws.drop 1).all a03=true then a3C (ws.drop 1) n kn else (emp,100)
theorem akd{c:List Int}{n:Int}{w:World}{e:Ending}{w':World}(h:Fd.GivesHL (a9Q (Fd.gL c n 4)) c n 4 w e w'):∃ov,e= .returned (.tuple #[ov,.int .i64 (Fd.shareE c n 4)])/\Fd.IntsAt w' ov (a2c c n)/\Below w.heap.size w w':=by
 obtain⟨ov,res,h1,h2,h3,h4,h5⟩:=h;refine⟨ov,h1,?_,h3⟩
 have:res=a2c c n:=by
  unfold a2c;split
  ·rename_i h0
   exact h5 h0
  rename_i h0;exact h4 h0
 rw[<-this];exact h2
theorem abi(x:List UInt8):∀l:List (List UInt8),Lib.joinTail [32] (l++[x])=Lib.joinTail [32] l++32::x
 |[]=>by simp[Lib.joinTail]
 |a::r=>by simp[Lib.joinTail,abi x r]
theorem ahR(l:List ByteArray)(x:ByteArray):a0x (l++[x])=(if l.length=0 then emp else a0x l++⟨#[32]⟩)++x:=by
 cases l with
 |nil=>
  rw[aoM,a5W];exact(ByteArray.empty_append).symm
 |cons a r=>
  rw[if_neg oz];unfold a0x;rw[aoE,List.map_singleton,aoJ,aoA,Lib.join_cons,abi,Lib.join_cons];apply ba_ext;simp[bsB]
theorem SaysK.push{w0 w w2:World}{S B:Nat}{l:List Rw}{o:Option Nat}{g:Nat}{ob:Obj}(h:SaysK (fun b=>o=some b) w0 w S B l)(hg:(w.alloc ob).grownBy w2 o)(hat:o=some g\/g=w.heap.size+1)(hlt:g<w2.heap.size):SaysK (fun b=>some g=some b) w2 w2 S B l:=by
 obtain⟨u,v,t,h3,hk⟩:=h;have hsz:(w.alloc ob).heap.size=w.heap.size+1:=by simp
 have hsz2:=hg.size;have hsame:∀k,k<w.heap.size->o≠some k->w2.heap[k]? =w.heap[k]? :=fun k h1 h2=>(hg.block k om (fun e=>h2 e.symm)).trans (aop _ _ _ om)
 have hu:∀k,u.ownBlock=some k->o≠some k/\k<w.heap.size:=fun k h1=>⟨fun h2=>(hk.out k h2).2.2.1 h1,(a0s h3.names h1).2⟩
 have hv:∀k,v.ownBlock=some k->o≠some k/\k<w.heap.size:=fun k h1=>⟨fun h2=>(hk.out k h2).2.2.2.1 h1,(a0s h3.texts h1).2⟩
 have ht:∀k,t.ownBlock=some k->o≠some k/\k<w.heap.size:=fun k h1=>⟨fun h2=>(hk.out k h2).2.2.2.2 h1,(a0s h3.sums h1).2⟩
 have hS:o≠some S:=fun h2=>(hk.out S h2).2.1 rfl
 refine⟨u,v,t,⟨(hsame S h3.lt hS).trans h3.cells,a0O h3.names fun k h1=>hsame k (hu k h1).2 (hu k h1).1,a0O h3.texts fun k h1=>hsame k (hv k h1).2 (hv k h1).1,a0O h3.sums fun k h1=>hsame k (ht k h1).2 (ht k h1).1,h3.apart,h3.low,by have:=h3.size;omega⟩,fun _ _=>rfl,fun k h1=>?_⟩;injection h1 with h1
 subst h1;rcases hat with h5|h5
 ·obtain⟨p1,p2,p3,p4,p5⟩:=hk.out g h5;exact⟨hlt,p2,p3,p4,p5⟩
 refine⟨hlt,by have:=h3.lt;omega,fun e=>?_,fun e=>?_,fun e=>?_⟩
 ·have:=(hu g e).2;omega
 ·have:=(hv g e).2;omega
 have:=(ht g e).2;omega
theorem TS.push{S B:Nat}{w wr w2:World}{o:Option Nat}{ob:Obj}(h:TS S B w wr)(hg:(wr.alloc ob).grownBy w2 o)(ho:∀k,o=some k->w.heap.size<=k):TS S B w w2:=by
 have hsz:(wr.alloc ob).heap.size=wr.heap.size+1:=by simp
 have hsz2:=hg.size;have hs:=h.size;exact⟨hg.os.trans h.os,hg.tape.trans h.tape,hg.output.trans h.output,om,fun k h1 h2 h3=>((hg.block k om (fun e=>by have:=ho k e.symm;omega)).trans (aop _ _ _ om)).trans (h.block k h1 h2 h3)⟩
theorem TS.cell{S B:Nat}{w w':World}(h:TS S B w w'){g o:Nat}{v:Value}(hg:g<S)(hS:S<B)(hc:w.cell? ⟨g,o,none⟩=some v):w'.cell? ⟨g,o,none⟩=some v:=
 (World.cell?_of_block (w:=w) (h.block g (World.block_lt_of_cell? _ _ hc) om om)).trans hc
theorem SaysAt.low{w:World}{S B:Nat}{l:List Rw}(h:SaysAt w S B l):S<B:=by obtain⟨u,v,t,h3⟩:=h;exact h3.low
theorem rshare_any(S B g off cap nw:Nat)(l:List Rw)(ws:List ByteArray)(w:World)(hS:SaysAt w S B l)(hl:l.length<=900)(hn:nw=ws.length)(h0:0<nw)(hc:∀j,j<ws.length->w.cell? ⟨g,off+j,none⟩=some (.string (ws.getD j emp)))(hg:g<S)(hsz:∀x∈ws,x.size<=1000000):
  Calls prog 71 #[.pointer (some ⟨S,0,none⟩),.slice (some ⟨g,off,none⟩) nw cap] w (a9T S B (a9X (knR l) ws) w):=by
 obtain⟨i0,hi0,hz0,hz1,hz2⟩:=info_parts Tryz.infoInt;have hSz:∀j,j<ws.length->(ws.getD j emp).size<=1000000:=fun j hj=>hsz _ (by rw[aoh,aoj hj];exact aoZ _)
 have HSZ:=hid hSz;have hlow:=hS.low;have hlt:=hS.lt;have HCE:=hid hc;have HN:=hid hn;have q0:=hc 0 om;rw[apM]at q0;have HX0:Hid ((ws.getD 0 emp).size<=4000000000):=hid (by have:=hSz 0 om;omega);obtain⟨R,hR⟩:∃R,R=a9X (knR l) ws:=⟨_,rfl⟩
 rw[<-hR];unfold a9X at hR;have HNM:=hid (fun W=>a7c (ws.getD 0 emp) W HX0.out);rw[a6V]at HNM;generalize ws.getD 0 emp=x0 at *;unfold a8U at HNM;have HSA:=hid hS;clear hc hsz hSz hS;cases hv:a0d x0 with
 |none=>
  have HRR:Hid (R=(emp,100)):=hid (by rw[hR,hv]);rw[hv]at HNM;rw[HRR.out];unfold emp;simp only[a8i,Option.getD_none,apU]at HNM;clear hR hv;go_enter func71,ntmps71;go_wp2_with fail
  refine(HNM.out _).mono ?_
  rintro e w2 ⟨rfl,rfl⟩;go_wp2;go_ret2;exact⟨rfl,TS.refl _ _ _⟩
 | some nv=>
  rw[hv]at hR;rw[hv]at HNM;simp only[a8i,aoW,apV]at HNM;simp only at hR;clear hv;by_cases h2:nw<2
  ·have h2i:(nw:Int)<2:=om;have HRR:Hid (R=(emp,100)):=hid (by rw[hR,if_pos om]);rw[HRR.out];unfold emp;clear hR h2;go_enter func71,ntmps71;go_wp2_with fail
   refine(HNM.out _).mono ?_
   rintro e w2 ⟨rfl,rfl⟩;go_wp2;go_ret2;exact⟨rfl,TS.refl _ _ _⟩
  have h2i:¬(nw:Int)<2:=om;by_cases h9:9<nw
  ·have h9i:(9:Int)<(nw:Int):=om;have HRR:Hid (R=(emp,100)):=hid (by rw[hR,if_pos om]);rw[HRR.out];unfold emp;clear hR h2 h9;go_enter func71,ntmps71;go_wp2_with fail
   refine(HNM.out _).mono ?_
   rintro e w2 ⟨rfl,rfl⟩;go_wp2;go_ret2;exact⟨rfl,TS.refl _ _ _⟩
  have h9i:¬(9:Int)<(nw:Int):=om;rw[if_neg om]at hR;have HRR:=hid hR;obtain⟨rs,hrs⟩:∃rs,rs=ws.drop 1:=⟨_,rfl⟩
  rw[<-hrs]at HRR;have HRL:Hid (rs.length+1=nw):=hid (by rw[hrs,aoG];omega)
  have HQ:Hid (∀k,k<rs.length->w.cell? ⟨g,off+(k+1),none⟩=some (.string (rs.getD k emp))/\(rs.getD k emp).size<=1000000):=hid (fun k hk=>by
   have h1:k+1<ws.length:=by have:=HRL.out;omega
   have h2:rs.getD k emp=ws.getD (k+1) emp:=by rw[hrs,aoh,aoh,List.getElem?_drop,Nat.add_comm]
   rw[h2];exact⟨HCE.out _ h1,HSZ.out _ h1⟩)
  obtain⟨C,hC⟩:∃C,C=rs.map (knR l).stk:=⟨_,rfl⟩
  have HC:=hid hC;have HK0:Hid (SaysK (fun b=>none=some b) w w S B l):=hid (HSA.out.keep (fun k hk=>by cases hk));clear hR h2 h9 hrs HCE HSZ hC;go_enter func71,ntmps71;go_wp2_with fail
  refine(HNM.out _).mono ?_
  rintro e w2 ⟨rfl,rfl⟩;go_wp2_with fail
  go_loopw [8,9] (fun o i wr=>∃(k:Nat) (lk:List Rw),k+1<=nw/\i= .int .i64 ((k:Int)+1)/\Hid ((rs.take k).all a03=true)/\Hid (knR lk=knR l)/\lk.length<=l.length+k/\Hid (SaysK (fun b=>o.ownBlock=some b) wr wr S B lk)/\Hid (TS S B w wr)/\Hid (wr.ownsRow w.heap.size 3 1 o k ((C.take k).map (Value.int .i64)))) (fun _ i _=>nw-(intOf i).toNat)
  case atStart=>exact⟨0,l,om,rfl,hid rfl,hid rfl,aof _,HK0,hid (TS.refl _ _ _),hid (World.ownsRow_nil _ _ _ _)⟩
  case round=>
   obtain⟨k,lk,hk,rfl,HALL,HKN,hlk,HSK,HTS,HO⟩:=hrel;by_cases hlt:k+1<nw
   ·have hlt2:(k:Int)+1<(nw:Int):=om;have hkz:(0:Int)<=(k:Int)+1:=om;obtain⟨hcell,hsize⟩:=HQ.out k (by have:=HRL.out;omega);have hck:=HTS.out.cell om hlow hcell
    have HTK:Hid (rs.take (k+1)=rs.take k++[rs.getD k emp]):=hid (by
     have hk2:k<rs.length:=by have:=HRL.out;omega
     rw[aon hk2,aoh,aoj hk2,aoW])
    have HMEM:Hid (rs.getD k emp∈rs):=hid (by
     have hk2:k<rs.length:=by have:=HRL.out;omega
     rw[aoh,aoj hk2];exact aoZ _)
    generalize rs.getD k emp=x at *;have HNAME:=hid (fun W=>a1e x W om)
    have HTC:Hid (C.take (k+1)=C.take k++[a0X lk x]):=hid (by
     rw[HC.out,<-aq1,<-aq1,HTK.out,aoE,List.map_singleton,<-HKN.out];rfl)
    clear hcell hsize;cases hnm:a03 x with
    | false=>
     have HR2:Hid (R=(emp,100)):=hid (by
      rw[HRR.out,if_neg];intro h;have:=ap6.1 h x HMEM.out;rw[hnm]at this;cases this)
     rw[hnm]at HNAME;rw[HR2.out];unfold emp;clear hnm;go_wp2_with fail
     refine(HNAME.out _).mono ?_
     rintro e w3 ⟨rfl,rfl⟩;go_wp2;go_ret2;exact⟨rfl,HTS.out⟩
    |true=>
     rw[hnm]at HNAME;have HALL2:Hid ((rs.take (k+1)).all a03=true):=hid (by rw[HTK.out,List.all_append,HALL.out];simp[hnm]);have HAT:=hid (ak9 _ wr S B lk x wr HSK.out om);have HKM:Hid (knR (a0G lk x)=knR l):=hid ((afV lk x).trans HKN.out);have hml:(a0G lk x).length<=l.length+(k+1):=by have:=a4B lk x;omega
     have HSM:=hid (a4E lk x x);clear hnm;go_wp2_with fail
     refine(HNAME.out _).mono ?_
     rintro e w3 ⟨rfl,rfl⟩;go_wp2_with fail
     refine HAT.out.mono ?_;rintro e w4 ⟨g2,c2,g3,c3,len,u,rfl,hna,hsk,hts⟩;have q2:=hna.says.cell.2.2.1;have q3:=hna.sum;rw[HSM.out]at q3;have hil:(a0g x lk:Int)<(len:Int):=by have:=hna.lt;omega
     have hiz:(0:Int)<=(a0g x lk:Int):=om;have hTS4:=HTS.out.trans hts;have HT4:=hid hTS4;have HO4:Hid (w4.ownsRow w.heap.size 3 1 u8 k ((C.take k).map (Value.int .i64))):=hid (a0O HO.out fun k hk=>hsk.same k hk);have HSK4:=hid hsk;have hsz4:w.heap.size<=w4.heap.size:=hTS4.size;clear hna hts hTS4 hsk HSK HO;generalize a0g x lk=i at *;generalize a0X lk x=sm at *;generalize a0G lk x=lm at *;go_wp2_with (at_builtin;refine wpList_append_lies _ rfl _ _ 122 rfl w.heap.size 3 i0 (.int .i64 0) 1 8 underlying122 hi0 hz0 hz1 hz2 rfl ox _ _ _ rfl (HO4.out.alloc _) ⟨w4.heap.size,0,none⟩ 1 1 [.int .i64 sm] rfl rfl ?c1 ?c2 ox ?c4 ?c5 ?c6 (w4.heap.size+1) ?c7 ?_)
     case c1=>exact(a0h _ _ _)
     case c2=>intro u hu;simp at hu;subst hu;rfl
     case c4=>unfold maxLen;omega
     case c5=>omega
     case c6=>simp;omega
     case c7=>simp
     intro g9 cap9 w5 hown hgrow hat hlt9;have HSK5:=hid (HSK4.out.push hgrow hat hlt9);have HT5:=hid (HT4.out.push hgrow (fun k hk=>(a0s HO4.out hk).1));have HO5:Hid (w5.ownsRow w.heap.size 3 1 (.slice (some ⟨g9,0,none⟩) (k+1) cap9) (k+1) ((C.take (k+1)).map (Value.int .i64))):=hid (by rw[HTC.out,aoE,aq1];exact hown);clear hown hgrow hat hlt9;go_wp2;go_roundw
     case rel=>exact⟨k+1,lm,om,by go_num,HALL2,HKM,hml,HSK5,HT5,HO5⟩
     case measure=>simp[intOf];omega
   obtain rfl:nw=k+1:=om;have hge:¬(k:Int)+1<((k+1:Nat):Int):=om;have hrk:rs.length=k:=by have:=HRL.out;omega
   have HR2:Hid (R=(a0x ((a2c C nv).map itoaB),Fd.shareE C nv 4)):=hid (by
    have h9:=HALL.out;rw[<-hrk,aoK]at h9;rw[HRR.out,if_pos h9,HC.out];rfl)
   have HCL:Hid (C.length=k):=hid (by rw[HC.out,aoB,hrk])
   have HI:Hid (Fd.IntsAt wr u8 C):=hid (by
    have h9:=HO.out;rw[<-HCL.out,aoK]at h9;exact a2Y h9 (by have:=HCL.out;omega))
   have HWH:=hid (Fd.rWhole_any _ C nv 4 wr HI.out (a9Q (Fd.gL C nv 4)) (fun _=>a6e _));clear hrk;go_wp2_with fail
   refine HWH.out.mono ?_;intro e w5 h5;obtain⟨ov,rfl,hi5,hb5⟩:=akd h5;clear h5;have HT5:=hid (HTS.out.trans (TS.of_below hb5));have HBD:=hid (aew C nv);generalize Fd.shareE C nv 4=er at *;generalize a2c C nv=res at *;obtain⟨rl,hrl⟩:∃rl,rl=res.length:=⟨_,rfl⟩
   obtain⟨ra,rcap,rfl,hr9,hrq⟩:=hi5;have HRQ:=hid hrq;have HRL9:=hid hrl;rw[<-hrl];have hrl8:rl<=8:=by rw[hrl];exact HBD.out.1
   clear hrl hrq hr9 hb5;go_wp2_with fail
   go_loopw [13,14] (fun o i wr=>∃j:Nat,j<=rl/\i= .int .i64 j/\o= .string (a0x ((res.take j).map itoaB))/\Hid ((a0x ((res.take j).map itoaB)).size<=12 * j)/\Hid (Below w5.heap.size w5 wr)) (fun _ i _=>rl-(intOf i).toNat)
   case atStart=>exact⟨0,aot _,rfl,rfl,hid (aof _),hid (aoi _ _)⟩
   case round=>
    obtain⟨j,hj,rfl,rfl,HJS,HBW⟩:=hrel;by_cases hlt:j<rl
    ·obtain⟨rb,roff,rfl,hcells⟩:=HRQ.out (by rw[<-HRL9.out];omega);have c9:=keep_cell HBW.out (hcells j (by rw[<-HRL9.out];exact hlt));have HQB:=hid (HBD.out.2 j)
     have HTJ:Hid (a0x ((res.take (j+1)).map itoaB)=(if j=0 then emp else a0x ((res.take j).map itoaB)++⟨#[32]⟩)++itoaB (res.getD j 0)):=hid (by
      have hk2:j<res.length:=by rw[<-HRL9.out];exact hlt
      rw[aon hk2,aoh,aoj hk2,aoW,aoE,List.map_singleton,ahR,aoB,aoy,Nat.min_eq_left om])
     have HD:=hid (fun W=>a2m (res.getD j 0) W (by have:=HQB.out;omega) (by have:=HQB.out;omega));have hqs:(itoaB (res.getD j 0)).size<=11:=a2G (by have:=HQB.out;omega) (by have:=HQB.out;omega)
     clear hcells;generalize res.getD j 0=q at *;rcases apI j with hj0|hj0
     ·subst hj0;rw[apM]at c9;have HT0:Hid (a0x ((res.take (0+1)).map itoaB)=a0x ((res.take 0).map itoaB)++itoaB q):=hid (by rw[HTJ.out,if_pos rfl];rfl);clear HTJ;obtain⟨x,hx⟩:∃x,x=a0x ((res.take 0).map itoaB):=⟨_,rfl⟩
      rw[<-hx]at HT0 HJS⊢;have hxs:x.size<=100:=by have:=HJS.out;omega
      generalize itoaB q=y at *;have HSN:Hid ((x++y).size<=12 * (0+1)):=hid (by have:=HJS.out;rw[ByteArray.size_append];omega);rw[<-HT0.out]at HSN;clear hx;go_wp2_with fail
      refine(HD.out _).mono ?_
      rintro e w6 ⟨rfl,hb6⟩;have HB6:=hid (below_trans HBW.out hb6);clear hb6;go_wp2;go_roundw
      case rel=>exact⟨1,om,by go_num,by rw[HT0.out],HSN,HB6⟩
      case measure=>simp[intOf];omega
     have hji:(0:Int)<(j:Int):=om;have HT0:Hid (a0x ((res.take (j+1)).map itoaB)=a0x ((res.take j).map itoaB)++⟨#[32]⟩++itoaB q):=hid (by rw[HTJ.out,if_neg om]);clear HTJ;obtain⟨x,hx⟩:∃x,x=a0x ((res.take j).map itoaB):=⟨_,rfl⟩
     rw[<-hx]at HT0 HJS⊢;have hxs:x.size<=100:=by have:=HJS.out;omega
     generalize itoaB q=y at *
     have HSN:Hid ((x++⟨#[32]⟩++y).size<=12 * (j+1)):=hid (by
      have:=HJS.out;rw[ByteArray.size_append,ByteArray.size_append];have:(⟨#[32]⟩:ByteArray).size=1:=rfl
      omega)
     rw[<-HT0.out]at HSN;clear hx;go_wp2_with fail
     refine(HD.out _).mono ?_
     rintro e w6 ⟨rfl,hb6⟩;have HB6:=hid (below_trans HBW.out hb6);clear hb6;go_wp2;go_roundw
     case rel=>exact⟨j+1,om,by go_num,by rw[HT0.out],HSN,HB6⟩
     case measure=>simp[intOf];omega
    obtain rfl:j=rl:=om;have hc2:res.take j=res:=by rw[HRL9.out,aoK]
    rw[hc2];go_wp2;go_ret2;rw[HR2.out];exact⟨rfl,HT5.out.trans (TS.of_below HBW.out)⟩
open Go
def a1R:Option Cmd->Option Cmd
 |some c=>if c.deed then none else some c
 |none=>none
def ahS(line:ByteArray):Option Cmd:=a1R (a08 line)
def a13(w r0:ByteArray)(rs:List ByteArray):Option Cmd:=
  if w=shareW then (match a0d r0 with
   |some n=>if rs.length<1\/8<rs.length then none else if rs.all a03=true then some (.share n rs)else none
   |none=>none)
  else if a03 r0=false then none
  else if w=textW/\rs.length=0 then some (.asked 0 [r0] [])
  else if w=stockW/\rs.length=0 then some (.stock r0)
  else if w=beatW/\rs.length=0 then some (.asked 1 [r0] [])
  else if w=farW/\rs.length=1/\a03 (rs.getD 0 emp)=true then some (.asked 2 [r0,rs.getD 0 emp] [])
  else if w=driftW/\rs.length=2 then (match a0d (rs.getD 0 emp),a0d (rs.getD 1 emp)with
   |some a,some b=>some (.asked 3 [r0] [a,b])
   |_,_=>none)
  else none
theorem abU{x:ByteArray}(h:a03 x=true):x≠emp:=by
 rintro rfl;revert h;decide
theorem ake{x:ByteArray}{v:Int}(h:a0d x=some v):x≠emp:=by
 rintro rfl;have:a0d emp=none:=ot;rw[this]at h;cases h
theorem aeK{α β:Type}{f:α->Option β}:∀{l:List α} {ys:List β},allS f l=some ys->∀x∈l,∃y,f x=some y
 |[],_,_,x,hx=>by simp at hx
 | a::l,ys,h,x,hx=>by
  unfold allS at h;cases h1:f a with
  |none=>simp[h1]at h
  | some y=>
   cases h2:allS f l with
   |none=>simp[h1,h2]at h
   |some zs=>
    rcases aov.1 hx with rfl|hx
    ·exact⟨y,h1⟩
    exact aeK h2 x hx
theorem am1{w:ByteArray}{x:Nat×Nat×Nat}(h:a3F w=some x):w≠emp:=by
 rintro rfl;have:a3F emp=none:=by decide
 rw[this]at h;cases h
theorem akf{line:ByteArray}{c:Cmd}(h:a08 line=some c)(hd:c.deed=false):∀x∈splitA 32 line,x≠emp:=by
 unfold a08 at h;split at h
 ·rename_i w r0 rs hs
  rw[hs];unfold a0Y at h
  have hcons:w≠emp->r0≠emp->(∀x∈rs,x≠emp)->∀x∈w::r0::rs,x≠emp:=fun h1 h2 h3 x hx=>by
   rcases aov.1 hx with rfl|hx
   ·exact h1
   rcases aov.1 hx with rfl|hx
   ·exact h2
   exact h3 x hx
  split at h
  ·split at h
   ·cases h;cases hd
   cases h
  split at h
  ·split at h
   ·cases h;cases hd
   cases h
  split at h
  ·rename_i hw
   split at h
   ·rename_i hc
    simp only[Bool.and_eq_true,decide_eq_true_eq]at hc;obtain⟨rfl,hc⟩:=hc;exact hcons (by rw[hw];decide) (abU hc) oz
   cases h
  split at h
  ·split at h
   ·split at h
    ·cases h;cases hd
    cases h
   cases h
  split at h
  ·rename_i hw
   split at h
   ·rename_i n hn
    split at h
    ·rename_i hc
     simp only[Bool.and_eq_true,ap6]at hc;exact hcons (by rw[hw];decide) (ake hn) (fun x hx=>abU (hc.1 x hx))
    cases h
   cases h
  unfold a2j at h;split at h
  ·cases h
  rename_i k many nums hk
  split at h
  ·cases h
  split at h
  ·rename_i ns h1 h2
   refine fun x hx=>?_;rcases aov.1 hx with rfl|hx
   ·exact am1 hk
   rw[<-ap9 many (r0::rs)]at hx;rcases aoI.1 hx with hx|hx
   ·exact abU (ap6.1 h1 x hx)
   obtain⟨y,hy⟩:=aeK h2 x hx;exact ake hy
  cases h
 cases h
theorem a9Y(q:Bool)(c:Cmd)(h:c.deed=true):a1R (if q=true then some c else none)=none:=by cases q<;>simp[a1R,h]
def am2(r0:ByteArray)(o:Option (List Int)):Option Cmd:=match o with
 |some [n]=>if a03 r0 then some (.add r0 n)else none
 |_=>none
theorem akg(r0:ByteArray)(o:Option (List Int)):a1R (am2 r0 o)=none:=by
 unfold am2;split
 ·exact a9Y _ _ rfl
 rfl
theorem am3(w r0:ByteArray)(rs:List ByteArray)(line:ByteArray):a13 w r0 rs=a1R (a0Y w r0 rs line):=by
 by_cases h1:w=shareW
 ·subst h1;unfold a13 a0Y;rw[if_pos rfl,if_neg ox,if_neg ox,if_neg ox,if_neg ox,if_pos rfl];cases a0d r0 with
  |none=>rfl
  |some n=>
   simp only;by_cases hl:rs.length<1\/8<rs.length
   ·rw[if_pos hl,show betw 1 (rs.length:Int) 8=false by rw[a8R];omega];simp[a1R]
   rw[if_neg hl,show betw 1 (rs.length:Int) 8=true by rw[betw_iff];omega];cases rs.all a03<;>simp[a1R,Cmd.deed]
 by_cases p1:w=putW
 ·subst p1;unfold a13 a0Y;rw[if_neg (show¬putW=shareW by decide),if_pos rfl,a9Y _ _ rfl];cases a03 r0
  ·rfl
  simp (decide:=true) only[false_and,if_false]
 by_cases p2:w=dropW
 ·subst p2;unfold a13 a0Y;rw[if_neg (show¬dropW=shareW by decide),if_neg (show¬dropW=putW by decide),if_pos rfl,a9Y _ _ rfl];cases a03 r0
  ·rfl
  simp (decide:=true) only[false_and,if_false]
 by_cases p3:w=stockW
 ·subst p3;unfold a13 a0Y;rw[if_neg (show¬stockW=shareW by decide),if_neg (show¬stockW=putW by decide),if_neg (show¬stockW=dropW by decide),if_pos rfl];cases rs with
  |nil=>cases a03 r0<;>simp (decide:=true) [a1R,Cmd.deed]
  |cons x r=>cases a03 r0<;>simp (decide:=true) [a1R]
 by_cases p4:w=addW
 ·subst p4;have e:a0Y addW r0 rs line=am2 r0 (allS a0d rs):=rfl;rw[e,akg];unfold a13;rw[if_neg (show¬addW=shareW by decide)];cases a03 r0
  ·rfl
  simp (decide:=true) only[false_and,if_false]
 have e:a0Y w r0 rs line=a2j w (r0::rs):=by
  unfold a0Y;rw[if_neg p1,if_neg p2,if_neg p3,if_neg p4,if_neg h1]
 rw[e];unfold a13;rw[if_neg h1];unfold a2j a3F;by_cases q1:w=textW
 ·subst q1;rw[if_pos rfl];cases rs with
  |nil=>cases h3:a03 r0<;>simp (decide:=true) [a1R,Cmd.deed,h3,allS]
  |cons x r=>cases a03 r0<;>simp (decide:=true) [a1R]
 by_cases q2:w=beatW
 ·subst q2;rw[if_neg (show¬beatW=textW by decide),if_pos rfl];cases rs with
  |nil=>cases h3:a03 r0<;>simp (decide:=true) [a1R,Cmd.deed,h3,allS]
  |cons x r=>cases a03 r0<;>simp (decide:=true) [a1R]
 by_cases q3:w=farW
 ·subst q3;rw[if_neg (show¬farW=textW by decide),if_neg (show¬farW=beatW by decide),if_pos rfl];match rs with
  |[]=>cases a03 r0<;>simp (decide:=true) [a1R]
  |[x]=>cases h3:a03 r0<;>cases h4:a03 x<;>simp (decide:=true) [h3,h4,allS,a1R,Cmd.deed]
  |x::y::z=>cases a03 r0<;>simp (decide:=true) [a1R]
 by_cases q4:w=driftW
 ·subst q4;rw[if_neg (show¬driftW=textW by decide),if_neg (show¬driftW=beatW by decide),if_neg (show¬driftW=farW by decide),if_pos rfl];match rs with
  |[]=>cases a03 r0<;>simp (decide:=true) [a1R]
  |[x]=>cases a03 r0<;>simp (decide:=true) [a1R]
  |[x,y]=>cases h3:a03 r0<;>cases h4:a0d x<;>cases h5:a0d y<;>simp (decide:=true) [h3,h4,h5,allS,Cmd.deed,a1R]
  |x::y::z::u=>cases a03 r0<;>simp (decide:=true) [a1R]
 rw[if_neg q1,if_neg q2,if_neg q3,if_neg q4];simp only[q1,q2,q3,q4,p3,false_and,if_false];cases a03 r0<;>rfl
def a5f(ws:List ByteArray):Option Cmd:=
 if ws.any (fun x=>decide (x=emp))=true then none else match ws with
 |w::r0::rs=>a13 w r0 rs
 |_=>none
theorem am4(line:ByteArray):a5f (splitA 32 line)=ahS line:=by
 by_cases he:(splitA 32 line).any (fun x=>decide (x=emp))=true
 ·have h1:a5f (splitA 32 line)=none:=by unfold a5f;rw[if_pos he]
  rw[h1];unfold ahS;cases hp:a08 line with
  |none=>rfl
  | some c=>
   cases hd:c.deed with
   |true=>simp[a1R,hd]
   |false=>
    obtain⟨x,hx,hx2⟩:=List.any_eq_true.1 he;exact absurd (by simpa using hx2) (akf hp hd x hx)
 unfold a5f ahS a08;rw[if_neg he];match splitA 32 line with
 |[]=>rfl
 |[w]=>rfl
 |w::r0::rs=>exact am3 w r0 rs line
end Go.Proofs.YtdfkaijeppdhaaaGreatDoor
