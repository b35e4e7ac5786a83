/- Part of the proof. -/
import Derived.Test.YtdfkaijeppdhaaaGreatDoorZHs34
import Derived.Test.YtdfkaijeppdhaaaGreatDoorZHs12
set_option maxRecDepth 100000
set_option maxHeartbeats 8000000

namespace Go.Proofs.YtdfkaijeppdhaaaGreatDoor
open Lib (hid)
open Proofs.Tryz Go.RowKit Go.Shelf
theorem aew(c:List Int)(n:Int):(a2c c n).length<=8/\∀j,0<=(a2c c n).getD j 0/\(a2c c n).getD j 0<=2000:=by
 unfold a2c;split
 ·rename_i h
  have W:=Fd.whl_share h;have hc:=W.cvl;refine⟨by rw[Fd.incL_len];exact hc.hi,fun j=>?_⟩
  have hL:((a9Q (Fd.gL c n 4)).take (Fd.whN n (Fd.shareL c n 4))).length<=8:=by
   have h1:=Fd.orde_len (a6e (Fd.gL c n 4));have h2:=W.len;have h3:(Fd.qsL (Fd.shareL c n 4)).length=(Fd.shareL c n 4).length:=by unfold Fd.qsL;simp
   have h4:=hc.hi;rw[aoy];omega
  have:=Fd.incL_bd ((a9Q (Fd.gL c n 4)).take (Fd.whN n (Fd.shareL c n 4))) (Fd.qsL (Fd.shareL c n 4)) 1000 (fun i=>by
   rw[aoh];by_cases hi:i<(Fd.qsL (Fd.shareL c n 4)).length
   ·rw[aoj hi];exact hc.holds _ (aoZ hi)
   rw[apa om];simp) j
  omega
 exact⟨by simp,fun j=>by simp⟩
def a3C(names:List ByteArray)(n:Int)(kn:Kn):ByteArray×Int:=(a0x ((a2c (names.map kn.stk) n).map itoaB),Fd.shareE (names.map kn.stk) n 4)
theorem ahH(base:Nat)(e:TypeId)(v:Value)(xs:List ByteArray)(w:World)(h:w.ownsRow base e 1 v xs.length (xs.map Value.string))(hN:xs.length<=8)(hx:∀x∈xs,x.size<=11):
  Calls prog 85 #[v,.string ⟨#[32]⟩] w fun e w'=>e= .returned (.string (a0x xs))/\Below w.heap.size w w':=by
 by_cases h0:xs=[]
 ·subst h0;rcases h.2 with⟨rfl,_⟩|⟨g,cap,cur,rfl,_,_,_,hrest⟩
  ·refine(Tryz.strings_Join_none _ _ _ _).mono ?_
   rintro e w2 ⟨rfl,hw2⟩;obtain rfl:w2=w:=hw2;exact⟨rfl,aoi _ _⟩
  refine(Tryz.strings_Join_none _ _ _ _).mono ?_
  rintro e w2 ⟨rfl,hw2⟩;obtain rfl:w2=w:=hw2;exact⟨rfl,aoi _ _⟩
 have hb:=Td.join_len [32] 11 (xs.map (·.data.toList)) (fun x hx'=>by
  obtain⟨y,hy,rfl⟩:=ap1.1 hx';have:=hx y hy;rw[a05]at this;exact this)
 rw[aoB]at hb;simp only[aom,aow]at hb;exact Td.join_own base e v xs ⟨#[32]⟩ w h h0 om (by show (Lib.join (xs.map (·.data.toList)) [32]).length<=_;omega)
theorem ak4(sv:Value)(names:List ByteArray)(n0:Int)(a b n:Nat)(kn:Kn)(w:World)(hS:StrsAt w sv names)(h0:0<names.length)(hl:names.length<=8)(hsz:∀x∈names,x.size<=8)(hK:KnAt w a b n kn)(hV:Vars w):
  Calls prog 288 #[.agg #[.int .i64 n0,sv],knV a b] w (a0J (a3C names n0 kn) w):=by
 obtain⟨i0,hi0,hz0,hz1,hz2⟩:=info_parts Tryz.infoInt;obtain⟨s0,hs0,hy0,hy1,hy2⟩:=info_parts Tryz.infoStr;obtain⟨C,hC⟩:∃C,C=names.map kn.stk:=⟨_,rfl⟩
 have HCC:=hid hC;obtain⟨R,hR⟩:∃R,R=a0x ((a2c C n0).map itoaB):=⟨_,rfl⟩
 have HR:=hid hR;obtain⟨E,hE⟩:∃E,E=Fd.shareE C n0 4:=⟨_,rfl⟩
 have HE:=hid hE;have hgoal:a3C names n0 kn=(R,E):=by rw[hR,hE,hC];rfl
 rw[hgoal];clear hgoal hR hE hC;obtain⟨bk,off,cap,rfl,hcap,hcc,hq⟩:=hS.cons h0;obtain⟨w1,hw1⟩:∃w1,w1=(w.alloc (.cells #[.int .i64 n0,.slice (some ⟨bk,off,none⟩) names.length cap] 146)).alloc (.cells #[.map (some a),.map (some b)] 102):=⟨_,rfl⟩
 have hb1:Below w.heap.size w w1:=by rw[hw1];exact((aoi _ w).alloc (aof _) _).alloc oz _
 have HB1:=hid hb1;have HQ:=hid (fun j hj=>keep_cell hb1 (hq j hj));have HK1:=hid (hK.below hb1);have HV1:=hid (hV.below hb1)
 have HE1:Hid (w1.heap[w.heap.size]? =some (.cells #[.int .i64 n0,.slice (some ⟨bk,off,none⟩) names.length cap] 146 (0,0))):=hid (by
  rw[hw1];exact(aop _ _ _ oz).trans (World.alloc_heap_new w _))
 have HE2:Hid (w1.heap[w.heap.size+1]? =some (.cells #[.map (some a),.map (some b)] 102 (0,0))):=hid (by
  have:=World.alloc_heap_new (w.alloc (.cells #[.int .i64 n0,.slice (some ⟨bk,off,none⟩) names.length cap] 146)) (.cells #[.map (some a),.map (some b)] 102);rw[aoq]at this;rw[hw1];exact this)
 have HSZ:=hid hsz;have HZ1:Hid (w1.heap.size=w.heap.size+2):=hid (by rw[hw1];simp);have HW1:=hid hw1;obtain⟨nl,hnl⟩:∃nl,nl=names.length:=⟨_,rfl⟩
 have HN:=hid hnl;have HCL:Hid (C.length=nl):=hid (by rw[HCC.out,hnl];simp);rw[<-hnl]at hcap h0 hl HE1 HW1⊢;clear hnl hw1 hb1 hS hK hsz hq hV;unfold knV;go_enter func288,ntmps288;have f1:=heap_cell (j:=1) HE1.out rfl;go_wp2_with fail
 rw[<-HW1.out];have HL1:=hid HZ1.out;go_loopw [6,17] (fun o i wr=>∃k:Nat,k<=nl/\i= .int .i64 k/\wr.ownsRow w1.heap.size 3 1 o k ((C.take k).map (Value.int .i64))/\Below w1.heap.size w1 wr) (fun _ i _=>nl-(intOf i).toNat)
 case atStart=>exact⟨0,aot _,rfl,World.ownsRow_nil _ _ _ _,aoi _ _⟩
 case round=>
  obtain⟨k,hk,rfl,hown,hbel⟩:=hrel;have hsz1:=hbel.size;have e0:=keep_cell hbel (heap_cell (j:=0) HE1.out rfl);have e1:=keep_cell hbel (heap_cell (j:=1) HE1.out rfl);have e3:=keep_cell hbel (heap_cell (j:=0) HE2.out rfl);have e4:=keep_cell hbel (heap_cell (j:=1) HE2.out rfl);by_cases hlt:k<nl
  ·have hc:=keep_cell hbel (HQ.out k (by rw[<-HN.out];exact hlt));have hmem:names.getD k emp∈names:=by rw[aoh,aoj (by rw[<-HN.out];exact hlt)];exact aoZ _
   have HXS:=HSZ.out _ hmem
   have HT:Hid (C.take (k+1)=C.take k++[kn.stk (names.getD k emp)]):=hid (by
    have hk2:k<names.length:=by rw[<-HN.out];exact hlt
    rw[HCC.out,aon (by simpa using hk2),List.getElem_map,aoh,aoj hk2,aoW])
   clear hmem;generalize names.getD k emp=x at *;have hlook:=(HK1.out.below hbel).lookI x om
   generalize kn.stk x=y at *;have HB:=hid hbel;have HO:=hid hown;clear hbel hown;go_wp2_with (at_builtin;refine wpList_append_own _ rfl _ _ 122 rfl w1.heap.size 3 i0 (.int .i64 0) 1 8 underlying122 hi0 hz0 hz1 hz2 rfl ox _ _ _ rfl (HO.out.alloc _) ⟨wr.heap.size,0,none⟩ 1 1 [.int .i64 y] rfl rfl ?c1 ?c2 ?c3 ?c4 ?c5 ?_)
   case c1=>exact(a0h _ _ _)
   case c2=>intro u hu;simp at hu;subst hu;rfl
   case c3=>unfold maxLen;omega
   case c4=>omega
   case c5=>simp;omega
   intro v' w2 hown' hgrow _;have RB:=below_append HB.out hsz1 HO.out (aof _) hgrow;clear hgrow;go_wp2;go_roundw
   case rel=>exact⟨k+1,om,by go_num,by rw[HT.out,aoE,aq1];exact hown',RB⟩
   case measure=>simp[intOf];omega
  have e:k=nl:=om;subst e;have HB:=hid (HB1.out.trans (hbel.mono HB1.out.size));have hc:C.take k=C:=by rw[<-HCL.out,aoK]
  rw[hc]at hown;have HI:=hid (a2Y (l:=C) (by rw[HCL.out];exact hown) (by have:=HCL.out;omega));have HV2:=hid (HV1.out.below hbel);have HWH:=hid (Fd.tWhole_any _ C n0 4 wr HI.out);clear hown hbel;go_wp2_with fail
  refine HWH.out.mono ?_;intro e w5 h5;obtain⟨ov,rfl,hi5,hb5⟩:=alP h5;clear h5;have HB5:=hid (below_trans HB.out hb5);have HV5:=hid (HV2.out.below hb5);have HBD:=hid (aew C n0);rw[<-HE.out];generalize a2c C n0=res at *;obtain⟨rl,hrl⟩:∃rl,rl=res.length:=⟨_,rfl⟩
  obtain⟨ra,rcap,rfl,hr9,hrq⟩:=hi5;have HRQ:=hid hrq;have HRL:=hid hrl;rw[<-hrl];have hrl8:rl<=8:=by rw[hrl];exact HBD.out.1
  clear hrl hrq hr9 hb5;go_wp2_with fail
  go_loopw [11,38] (fun o i wr=>∃j:Nat,j<=rl/\i= .int .i64 j/\wr.ownsRow w5.heap.size 9 1 o j (((res.take j).map itoaB).map Value.string)/\Below w5.heap.size w5 wr) (fun _ i _=>rl-(intOf i).toNat)
  case atStart=>exact⟨0,aot _,rfl,World.ownsRow_nil _ _ _ _,aoi _ _⟩
  case round=>
   obtain⟨j,hj,rfl,hown,hbel⟩:=hrel;have hszj:=hbel.size;by_cases hlt:j<rl
   ·obtain⟨rb,roff,rfl,hcells⟩:=HRQ.out (by rw[<-HRL.out];omega);have c9:=keep_cell hbel (hcells j (by rw[<-HRL.out];exact hlt));have HQB:=hid (HBD.out.2 j)
    have HT:Hid (res.take (j+1)=res.take j++[res.getD j 0]):=hid (by
     have hk2:j<res.length:=by rw[<-HRL.out];exact hlt
     rw[aon hk2,aoh,aoj hk2,aoW])
    clear hcells;generalize res.getD j 0=q at *;have HI2:=hid (itoa_any q (by have:=HQB.out;omega) (by have:=HQB.out;omega) wr (HV5.out.below hbel));have HB:=hid hbel;have HO:=hid hown;clear hbel hown;go_wp2_with fail
    refine HI2.out.mono ?_;rintro e w6 ⟨rfl,hb6⟩;have HO6:=hid (own_below HO.out hb6);have HB6:=hid (HB.out.trans (hb6.mono HB.out.size));have hsz6:w5.heap.size<=w6.heap.size:=HB6.out.size;clear hb6;go_wp2_with (at_builtin;refine wpList_append_own _ rfl _ _ 22 rfl w5.heap.size 9 s0 (.string ⟨#[]⟩) 1 16 underlying22 hs0 hy0 hy1 hy2 rfl ox _ _ _ rfl (HO6.out.alloc _) ⟨w6.heap.size,0,none⟩ 1 1 [.string (itoaB q)] rfl rfl ?c1 ?c2 ?c3 ?c4 ?c5 ?_)
    case c1=>exact(a0h _ _ _)
    case c2=>intro u hu;simp at hu;subst hu;rfl
    case c3=>unfold maxLen;omega
    case c4=>omega
    case c5=>simp;omega
    intro v' w2 hown' hgrow _;have RB:=below_append HB6.out hsz6 HO6.out (aof _) hgrow;clear hgrow;go_wp2;go_roundw
    case rel=>exact⟨j+1,om,by go_num,by rw[HT.out];simpa using hown',RB⟩
    case measure=>simp[intOf];omega
   have e:j=rl:=om;subst e;have hc2:res.take j=res:=by rw[HRL.out,aoK]
   rw[hc2]at hown
   have HJ:=hid (ahH _ _ _ (res.map itoaB) wr (by rw[aoB,<-HRL.out];exact hown) (by rw[aoB];exact HBD.out.1) (fun x hx=>by
    obtain⟨y,hy,rfl⟩:=ap1.1 hx;obtain⟨i,hi,rfl⟩:=List.mem_iff_getElem.1 hy;have:=HBD.out.2 i;rw[aoh,aoj hi,aoW]at this;exact a2G om om))
   rw[<-HR.out]at HJ;have HB:=hid (HB5.out.trans (hbel.mono HB5.out.size));clear hown hbel;go_wp2_with fail
   refine HJ.out.mono ?_;rintro e w8 ⟨rfl,hb8⟩;go_wp2;go_ret2;exact⟨rfl,below_trans HB.out hb8⟩
def a4t(name:ByteArray)(kn:Kn):ByteArray×Int:=(itoaB (kn.stk name),0)
theorem afB(name:ByteArray)(kn:Kn):(a4t name kn).2≠0->(a4t name kn).1=emp:=fun h=>absurd rfl h
theorem afC(names:List ByteArray)(n:Int)(kn:Kn):(a3C names n kn).2≠0->(a3C names n kn).1=emp:=by
 unfold a3C a2c;intro h;simp only at h;simp only;rw[if_neg h];rfl
theorem ak5(name:ByteArray)(a b n:Nat)(kn:Kn)(w:World)(hsz:name.size<=8)(hK:KnAt w a b n kn)(hB: -1000000000<=kn.stk name/\kn.stk name<=1000000000)(hV:Vars w):
  Calls prog 286 #[.agg #[.string name],knV a b] w (a0J (a4t name kn) w):=by
 unfold a4t;obtain⟨w1,hw1⟩:∃w1,w1=(w.alloc (.cells #[.string name] 139)).alloc (.cells #[.map (some a),.map (some b)] 102):=⟨_,rfl⟩
 have hb1:Below w.heap.size w w1:=by rw[hw1];exact((aoi _ w).alloc (aof _) _).alloc oz _
 have HB1:=hid hb1;have hlook:=(hK.below hb1).lookI name om
 have HI:=hid (itoa_any (kn.stk name) hB.1 hB.2 w1 (hV.below hb1));generalize kn.stk name=y at *;have HW1:=hid hw1
 have HE1:Hid (w1.heap[w.heap.size]? =some (.cells #[.string name] 139 (0,0))):=hid (by
  rw[hw1];exact(aop _ _ _ oz).trans (World.alloc_heap_new w _))
 have HE2:Hid (w1.heap[w.heap.size+1]? =some (.cells #[.map (some a),.map (some b)] 102 (0,0))):=hid (by
  have:=World.alloc_heap_new (w.alloc (.cells #[.string name] 139)) (.cells #[.map (some a),.map (some b)] 102);rw[aoq]at this;rw[hw1];exact this)
 have e0:=heap_cell (j:=0) HE1.out rfl;have e4:=heap_cell (j:=1) HE2.out rfl;clear hw1 hb1 hK hV hB;unfold knV;go_enter func286,ntmps286;go_upto_region 1 with fail
 rw[<-HW1.out];go_wp2_with (first|(go_at_call 48;refine HI.out.mono ?_;rintro e w5 ⟨rfl,h5⟩)|fail)
 go_ret2;exact⟨rfl,below_trans HB1.out h5⟩
theorem ahI(P n:Nat)(F:List Nat)(b:a00)(line:ByteArray)(hs:line.size<=1000000)(w:World)(h:PostAt w P F n b)(hok:a02 b)(hV:Vars w)(name:ByteArray)(hc:a08 line=some (.stock name)):
  Calls prog 36 #[.pointer (some ⟨P,0,none⟩),.string line] w (a0J (a4t name (a0e (a06 b))) w):=by
 have HSM:=hid ((Cmd.names_small hc).2.2.2.1 name rfl);obtain⟨R,hR⟩:∃R,R=a4t name (a0e (a06 b)):=⟨_,rfl⟩
 have HNM:=hid (afB name (a0e (a06 b)));have HR:=hid hR;rw[<-hR];clear hR;obtain⟨K,vs,hP,hvs,hF⟩:=h.parts;have HN:=hid (a0T P K n _ w hP);have HA:=hid (a1U line hs w hV);have HC:=hid hc;have HPC:=hid hP;have HVS:=hid hvs;have HVR:=hid hV;have HOK:=hid hok;clear h hP hvs hF hV hok hc;go_enter func36,ntmps36;go_wp2_with fail
 refine HN.out.mono ?_;rintro e w1 ⟨rfl,rfl⟩;go_wp2_with fail
 refine HA.out.mono ?_;rintro e w1 ⟨⟨pv,rfl,hpv⟩,hb1⟩;have hta:=a4m hpv w1;rw[HC.out]at hta hpv;rw[show Cmd.askO (some (.stock name))=true from rfl]at hta;unfold ifV at hta;simp only[if_true]at hta;have HPV:=hid hpv;have HB1:=hid hb1;have HV1:=hid (HVR.out.below hb1);have r4:∀W,KB w1 W->W.cell? ⟨P,0,none⟩=some (.pointer (some ⟨K,0,none⟩)):=fun W hW=>keep_cell hW (keep_cell hb1 (heap_cell HPC.out rfl));have HALL:=hid (fun W (hW:KB w1 W)=>a4f K _ b W ((HVS.out.below HB1.out).below hW).at HOK.out);have HENT:Hid (∀e∈a06 b,(a0b e).size<=60):=hid (fun e he=>((a1d _).1 (by rw[<-a1I];exact(a0y HOK.out he).2.2.2)).1);have HLEN:Hid ((a06 b).length<=1000):=hid (by rw[a1j];have:=a1X HOK.out;omega);clear hpv hb1;go_wp2;obtain rfl:=HPV.out;have hme:∀w,(method 462 139 (.agg #[.string name]) "skimmer/post.ask").run prog w= .ok (286,.agg #[.string name]) w:=fun w=>adz _ w
 have hah:∀w,(nilAhead 462 139 (.agg #[.string name]) "skimmer/post.ask").run prog w= .ok (some false) w:=fun w=>af4 _ w
 have HRR:=hid (show a4t name (a0e (a06 b))=R from HR.out.symm);clear hta;have HAK:=hid (fun W (hW:KB w1 W) ka kb (hk:KnAt W ka kb (a06 b).length (a0e (a06 b)))=>ak5 name ka kb _ _ W HSM.out hk (by have:=a84 (a06 b) kn0 0 (fun s=>⟨aoR _,aoR _⟩) name;have h2:=HLEN.out;show-1000000000<=(a1Z kn0 (a06 b)).stk name/\(a1Z kn0 (a06 b)).stk name<=1000000000;omega) (HV1.out.below hW));rw[HRR.out]at HAK
 go_region_held3 (fun W=>KB w1 W) (first|exact KB.refl _|exact KB.drew (KB.refl _)|assumption|exact KB.drew (by assumption)|fail) (first
  |(go_at_call 57;refine(HALL.out _ (by first|exact KB.refl _|exact KB.drew (KB.refl _)|assumption)).mono ?_;rintro e w5 ⟨v5,rfl,hl5,ho5,hb5⟩;have q5:KB w1 w5:=KB.call (KB.drew (KB.refl _)) hb5;have HSY:=hid (a3Z v5 (a06 b) w5 (hl5.ents (by have:=HLEN.out;omega)) HLEN.out HENT.out (HV1.out.below q5));clear hl5 ho5 hb5)
  |(go_at_call 56;refine HSY.out.mono ?_;rintro e w6 ⟨ka,kb,rfl,hk6,hka,hkb,hb6⟩;have q6:KB w1 w6:=KB.call q5 hb6;have HK6:=hid hk6;have HV6:=hid (HV1.out.below q6);clear hk6 hka hkb hb6)
  |(go_at_call 286;refine(HAK.out _ q6 _ _ HK6.out).mono ?_;rintro e w7 ⟨rfl,hb7⟩;have q7:KB w1 w7:=KB.call q6 hb7;clear hb7)
  |fail)
 all_goals (
  rw[HRR.out]at HNM;obtain⟨rs,re⟩:=R;by_cases hz:re=0
  ·subst hz;go_wp2;go_ret2;exact⟨rfl,below_trans HB1.out q7⟩
  have z0:(re != 0)=true:=by simpa using hz
  have hem:rs=emp:=HNM.out hz;subst hem;go_wp2;go_ret2;exact⟨rfl,below_trans HB1.out q7⟩)
theorem ahJ(P n:Nat)(F:List Nat)(b:a00)(line:ByteArray)(hs:line.size<=1000000)(w:World)(h:PostAt w P F n b)(hok:a02 b)(hV:Vars w)(m:Int)(names:List ByteArray)(hc:a08 line=some (.share m names))(h0:0<names.length)(hl:names.length<=8):
  Calls prog 36 #[.pointer (some ⟨P,0,none⟩),.string line] w (a0J (a3C names m (a0e (a06 b))) w):=by
 have HSM:=hid ((Cmd.names_small hc).2.2.2.2.1 m names rfl);obtain⟨R,hR⟩:∃R,R=a3C names m (a0e (a06 b)):=⟨_,rfl⟩
 have HNM:=hid (afC names m (a0e (a06 b)));have HR:=hid hR;rw[<-hR];clear hR;obtain⟨K,vs,hP,hvs,hF⟩:=h.parts;have HN:=hid (a0T P K n _ w hP);have HA:=hid (a1U line hs w hV);have HC:=hid hc;have HPC:=hid hP;have HVS:=hid hvs;have HVR:=hid hV;have HOK:=hid hok;clear h hP hvs hF hV hok hc;go_enter func36,ntmps36;go_wp2_with fail
 refine HN.out.mono ?_;rintro e w1 ⟨rfl,rfl⟩;go_wp2_with fail
 refine HA.out.mono ?_;rintro e w1 ⟨⟨pv,rfl,hpv⟩,hb1⟩;have hta:=a4m hpv w1;rw[HC.out]at hta hpv;rw[show Cmd.askO (some (.share m names))=true from rfl]at hta;unfold ifV at hta;simp only[if_true]at hta;have HPV:=hid hpv;have HB1:=hid hb1;have HV1:=hid (HVR.out.below hb1);have r4:∀W,KB w1 W->W.cell? ⟨P,0,none⟩=some (.pointer (some ⟨K,0,none⟩)):=fun W hW=>keep_cell hW (keep_cell hb1 (heap_cell HPC.out rfl));have HALL:=hid (fun W (hW:KB w1 W)=>a4f K _ b W ((HVS.out.below HB1.out).below hW).at HOK.out);have HENT:Hid (∀e∈a06 b,(a0b e).size<=60):=hid (fun e he=>((a1d _).1 (by rw[<-a1I];exact(a0y HOK.out he).2.2.2)).1);have HLEN:Hid ((a06 b).length<=1000):=hid (by rw[a1j];have:=a1X HOK.out;omega);clear hpv hb1;go_wp2;obtain⟨sv,rfl,hs1⟩:=HPV.out;have hme:∀w,(method 462 146 (.agg #[.int .i64 m,sv]) "skimmer/post.ask").run prog w= .ok (288,.agg #[.int .i64 m,sv]) w:=fun w=>adA _ w
 have hah:∀w,(nilAhead 462 146 (.agg #[.int .i64 m,sv]) "skimmer/post.ask").run prog w= .ok (some false) w:=fun w=>af5 _ w
 have HS1:=hid hs1;clear hs1;have HRR:=hid (show a3C names m (a0e (a06 b))=R from HR.out.symm);clear hta;have HAK:=hid (fun W (hW:KB w1 W) ka kb (hk:KnAt W ka kb (a06 b).length (a0e (a06 b)))=>ak4 sv names m ka kb _ _ W (HS1.out.below hW) h0 hl HSM.out hk (HV1.out.below hW));rw[HRR.out]at HAK
 go_region_held3 (fun W=>KB w1 W) (first|exact KB.refl _|exact KB.drew (KB.refl _)|assumption|exact KB.drew (by assumption)|fail) (first
  |(go_at_call 57;refine(HALL.out _ (by first|exact KB.refl _|exact KB.drew (KB.refl _)|assumption)).mono ?_;rintro e w5 ⟨v5,rfl,hl5,ho5,hb5⟩;have q5:KB w1 w5:=KB.call (KB.drew (KB.refl _)) hb5;have HSY:=hid (a3Z v5 (a06 b) w5 (hl5.ents (by have:=HLEN.out;omega)) HLEN.out HENT.out (HV1.out.below q5));clear hl5 ho5 hb5)
  |(go_at_call 56;refine HSY.out.mono ?_;rintro e w6 ⟨ka,kb,rfl,hk6,hka,hkb,hb6⟩;have q6:KB w1 w6:=KB.call q5 hb6;have HK6:=hid hk6;have HV6:=hid (HV1.out.below q6);clear hk6 hka hkb hb6)
  |(go_at_call 288;refine(HAK.out _ q6 _ _ HK6.out).mono ?_;rintro e w7 ⟨rfl,hb7⟩;have q7:KB w1 w7:=KB.call q6 hb7;clear hb7)
  |fail)
 all_goals (
  rw[HRR.out]at HNM;obtain⟨rs,re⟩:=R;by_cases hz:re=0
  ·subst hz;go_wp2;go_ret2;exact⟨rfl,below_trans HB1.out q7⟩
  have z0:(re != 0)=true:=by simpa using hz
  have hem:rs=emp:=HNM.out hz;subst hem;go_wp2;go_ret2;exact⟨rfl,below_trans HB1.out q7⟩)
def Shp(k:Nat)(l:List ByteArray)(ns:List Int):Prop:=
 (k=0/\l.length=1/\ns.length=0)\/(k=1/\l.length=1/\ns.length=0)\/(k=2/\l.length=2/\ns.length=0)\/(k=3/\l.length=1/\ns.length=2)
theorem ahK{w:ByteArray}{k many nums:Nat}(h:a3F w=some (k,many,nums)):(k=0/\many=1/\nums=0)\/(k=1/\many=1/\nums=0)\/(k=2/\many=2/\nums=0)\/(k=3/\many=1/\nums=2):=by
 unfold a3F at h;split at h
 ·cases h;exact .inl ⟨rfl,rfl,rfl⟩
 split at h
 ·cases h;exact .inr (.inl ⟨rfl,rfl,rfl⟩)
 split at h
 ·cases h;exact .inr (.inr (.inl ⟨rfl,rfl,rfl⟩))
 split at h
 ·cases h;exact .inr (.inr (.inr ⟨rfl,rfl,rfl⟩))
 cases h
theorem Cmd.shape{s:ByteArray}{c:Cmd}(h:a08 s=some c):(∀m l,c= .share m l->1<=l.length/\l.length<=8)/\(∀k l ns,c= .asked k l ns->Shp k l ns):=by
 unfold a08 at h;split at h
 ·rename_i w r0 rs _
  unfold a0Y at h;split at h
  ·split at h
   ·cases h;exact⟨by simp,by simp⟩
   cases h
  split at h
  ·split at h
   ·cases h;exact⟨by simp,by simp⟩
   cases h
  split at h
  ·split at h
   ·cases h;exact⟨by simp,by simp⟩
   cases h
  split at h
  ·split at h
   ·split at h
    ·cases h;exact⟨by simp,by simp⟩
    cases h
   cases h
  split at h
  ·split at h
   ·split at h
    ·rename_i hc
     rw[Bool.and_eq_true,betw_iff]at hc;cases h
     exact⟨fun m l e=>by cases e;omega,by simp⟩
    cases h
   cases h
  unfold a2j at h;split at h
  ·cases h
  rename_i k many nums hk
  split at h
  ·cases h
  rename_i hne
  split at h
  ·rename_i ns _ hns
   cases h
   refine⟨by simp,fun k l ns e=>?_⟩;cases e
   have h1:=allS_len _ _ _ hns;rw[aoG]at h1;have h3:=ahK hk;unfold Shp;rw[aoy];omega
  cases h
 cases h
theorem aex(P n:Nat)(F:List Nat)(b:a00)(line:ByteArray)(hs:line.size<=1000000)(w:World)(h:PostAt w P F n b)(hok:a02 b)(hV:Vars w)(names:List ByteArray)(ns:List Int)(hc:a08 line=some (.asked 1 names ns)):
  Calls prog 36 #[.pointer (some ⟨P,0,none⟩),.string line] w (a0J (a0B a1L names (a0e (a06 b))) w):=by
 have hsh:=(Cmd.shape hc).2 _ _ _ rfl
 unfold Shp at hsh
 exact a5n P n F b line hs w h hok hV 1 names ns hc om om a1L (enters_of func117 ot rfl) fun W base tv bv ts hb _ hrow _ hts=>by
  have hlen:=allS_len _ _ _ hts;exact ajJ W base tv bv ts hrow om (hV.below hb)
theorem adb(P n:Nat)(F:List Nat)(b:a00)(line:ByteArray)(hs:line.size<=1000000)(w:World)(h:PostAt w P F n b)(hok:a02 b)(hV:Vars w)(names:List ByteArray)(ns:List Int)(hc:a08 line=some (.asked 3 names ns)):
  Calls prog 36 #[.pointer (some ⟨P,0,none⟩),.string line] w (a0J (a0B (a1u ns) names (a0e (a06 b))) w):=by
 have hsh:=(Cmd.shape hc).2 _ _ _ rfl
 unfold Shp at hsh
 exact a5n P n F b line hs w h hok hV 3 names ns hc om om (a1u ns) (enters_of func119 ot rfl) fun W base tv bv ts hb _ hrow hI hts=>by
  have hlen:=allS_len _ _ _ hts;exact ahl W base tv bv ts ns hrow om hI om (hV.below hb)
open Go
theorem ahL{s:ByteArray}{c:Cmd}(h:a08 s=some c)(hd:c.deed=true):4<=s.size/\
  ((∃r0 t,c= .put r0 t/\a03 r0=true/\s.data.toList=[112,117,116,32]++(r0.data.toList++32::t.data.toList))\/s.data.toList.take 4≠[112,117,116,32]):=by
 unfold a08 at h;split at h
 ·rename_i w r0 rs hs
  have he:=a3P hs oz;have hsz:s.size=w.data.toList.length+1+(a0x (r0::rs)).data.toList.length:=by rw[a05,he];simp;omega
  unfold a0Y at h;split at h
  ·rename_i hw
   subst hw;have h3:putW.data.toList.length=3:=rfl;split at h
   ·rename_i hc
    rw[Bool.and_eq_true,Bool.and_eq_true]at hc;obtain⟨⟨h1,h2⟩,_⟩:=hc;cases h
    refine⟨om,.inl ⟨r0,a0x rs,rfl,h1,?_⟩⟩;cases rs with
    |nil=>simp[a0x,Lib.join,bsB]at h2
    |cons r1 rs=>
     rw[he,a6P];rfl
   cases h
  split at h
  ·rename_i hw
   subst hw;have h3:dropW.data.toList.length=4:=rfl;refine⟨om,.inr ?_⟩;rw[he,List.take_append_of_le_length om];decide
  split at h
  ·split at h
   ·cases h;cases hd
   cases h
  split at h
  ·rename_i hw
   subst hw;have h3:addW.data.toList.length=3:=rfl;refine⟨om,.inr ?_⟩;rw[he];show ([97,100,100]++32::_:List UInt8).take 4≠_
   simp
  split at h
  ·split at h
   ·split at h
    ·cases h;cases hd
    cases h
   cases h
  unfold a2j at h;split at h
  ·cases h
  split at h
  ·cases h
  split at h
  ·cases h;cases hd
  cases h
 cases h
theorem Cmd.put_size{s x u:ByteArray}(h:a08 s=some (.put x u)):u.size<=s.size:=by
 obtain⟨_,⟨r0,t,hc,_,he⟩|hne⟩:=ahL h rfl
 ·cases hc
  rw[a05,a05 s,he];simp;omega
 unfold a08 at h;split at h
 ·rename_i w r0 rs hs
  have he:=a3P hs oz;unfold a0Y at h;split at h
  ·rename_i hw
   subst hw;exact absurd (by rw[he];rfl) hne
  split at h
  ·split at h<;>cases h
  split at h
  ·split at h<;>cases h
  split at h
  ·split at h
   ·split at h<;>cases h
   cases h
  split at h
  ·split at h
   ·split at h<;>cases h
   cases h
  unfold a2j at h;split at h
  ·cases h
  split at h
  ·cases h
  split at h<;>cases h
 cases h
end Go.Proofs.YtdfkaijeppdhaaaGreatDoor
