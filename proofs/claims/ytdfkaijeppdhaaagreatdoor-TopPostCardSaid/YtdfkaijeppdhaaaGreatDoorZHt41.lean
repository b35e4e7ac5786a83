/- Part of the proof. -/
import Derived.Test.YtdfkaijeppdhaaaGreatDoorZHt40
set_option maxRecDepth 100000
set_option maxHeartbeats 8000000
set_option linter.unusedSimpArgs false
set_option linter.unusedVariables false

namespace Go.Proofs.YtdfkaijeppdhaaaGreatDoor
open Go.RowKit Go.Shelf
open Lib (hid)
def aol(kn:Kn)(ws:List ByteArray):ByteArray×Int:=match a49 ws with
 |some c=>aoD kn c
 |none=>(emp,100)
theorem afW(b:anl)(line:ByteArray):ant b line=aol (a07 (ann b)) (splitA 32 line):=by
 unfold aol;rw[ak8];unfold ant aoJ;cases a05 line with
 |none=>rfl
 |some c=>cases c<;>rfl
theorem ak9{kn:Kn}{ws:List ByteArray}(h:ws.any (fun x=>decide (x=emp))=true):aol kn ws=(emp,100):=by
 unfold aol a49;rw[if_pos h]
theorem afX{kn:Kn}{ws:List ByteArray}(h:ws.length<2):aol kn ws=(emp,100):=by
 unfold aol a49;split
 ·rename_i c hc
  split at hc
  ·cases hc
  match ws,h,hc with
  |[],_,hc=>cases hc
  |[_],_,hc=>cases hc
 rfl
theorem alt{kn:Kn}{w0 r0:ByteArray}{rs:List ByteArray}(h:(w0::r0::rs).any (fun x=>decide (x=emp))=false):aol kn (w0::r0::rs)=match anB w0 r0 rs with
 |some c=>aoD kn c
 |none=>(emp,100):=by
 unfold aol a49;rw[h];rfl
theorem afY(kn:Kn)(r0:ByteArray)(rs:List ByteArray):(match anB shareW r0 rs with
 |some c=>aoD kn c
 |none=>(emp,100))=aox kn (r0::rs):=by
 unfold anB aox;rw[if_pos rfl];simp only[am7,List.drop_succ_cons,List.drop_zero,alB];cases anp r0 with
 |none=>rfl
 |some n=>
  simp only;by_cases h:rs.length<1\/8<rs.length
  ·rw[if_pos h,if_pos (show rs.length+1<2\/9<rs.length+1 by omega)]
  rw[if_neg h,if_neg (show¬(rs.length+1<2\/9<rs.length+1) by omega)];by_cases h2:rs.all a01=true
  ·rw[if_pos h2,if_pos h2];rfl
  rw[if_neg h2,if_neg h2]
theorem alu(l:List Rw)(n:ByteArray):a0n a2q [n] (knR l)=(a0a l n,if a0a l n=emp then 5 else 0):=by
 rw[a7l];by_cases h:a0a l n=emp
 ·rw[if_pos h,if_pos h,h]
 rw[if_neg h,if_neg h];rfl
theorem aka(P:Nat)(pn:Int)(vs:Nat->Value)(b:anl)(line:ByteArray)(hs:line.size<=1000000)(w:World)(h:RfAt w P pn vs b)(hok:a02 b):
  Calls Tryz.prog 43 #[.pointer (some ⟨P,0,none⟩),.string line] w (a0s (ant b line) w):=by
 obtain⟨ws,hws⟩:∃ws,ws=splitA 32 line:=⟨_,rfl⟩
 obtain⟨R,hR⟩:∃R,R=ant b line:=⟨_,rfl⟩
 rw[<-hR];have HR:Hid (R=aol (a07 (ann b)) ws):=hid (by rw[hR,hws,afW]);have HSP:=hid (afU line hs w);rw[<-hws]at HSP
 have HSZ:Hid (∀x∈ws,x.size<=1000000):=hid (fun x hx=>by
  have:=a7C (c:=32) (s:=line) (x:=x) (by rw[<-hws];exact hx);omega)
 have HLEN:Hid (ws.length<=1000001):=hid (by
  have h1:=splitA_len 32 line;rw[<-hws]at h1;have:=ang (a:=(32:UInt8)) (l:=line.data.toList);rw[<-a03]at this;omega)
 have HSY:=hid (fun W (hW:Below w.heap.size w W)=>aaz P pn vs b W (h.below hW) hok);unfold a6Q at HSY
 have HLL:Hid ((a0t (ann b) []).length<=240):=hid (by
  have:=a2d (ann b) [];have h2:(ann b).length<=240:=by rw[a0X];exact a1t hok
  simp only[alH]at this;omega)
 have HTX:Hid (∀x,(a0a (a0t (ann b) []) x).size<=1000):=hid (fun x=>by
  by_cases he:a0a (a0t (ann b) []) x=emp
  ·rw[he];decide
  have h2:(a07 (ann b)).txt x=some (a0a (a0t (ann b) []) x):=by rw[<-a5O];exact a2F he
  have:=aaZ hok x _ h2;omega)
 have HSM:Hid (∀x, -100000000<=a0H (a0t (ann b) []) x/\a0H (a0t (ann b) []) x<=100000000):=hid (fun x=>a2H (ann b) (by rw[a0X];have:=a1t hok;omega) x);rw[<-a5O]at HR;generalize a0t (ann b) []=l at *;unfold ab5 at HSP;clear h hok hs hR hws;go_enter Tryz.func43,Tryz.ntmps43;go_wp2_with fail
 refine HSP.out.mono ?_;rintro e w2 ⟨hsa,hsb,hb2⟩;have HB2:=hid hb2;clear hb2;cases hany:ws.any (fun x=>decide (x=emp))with
 |true=>
  obtain rfl:=hsa hany;have HR2:Hid (R=(emp,100)):=hid (by rw[HR.out,ak9 hany]);clear hsa hsb hany;go_wp2;go_ret2;rw[HR2.out];exact⟨rfl,HB2.out⟩
 | false=>
  obtain⟨v,rfl,hown⟩:=hsb hany;have HANY:=hid hany;clear hsa hsb hany;by_cases hlen:ws.length<2
  ·obtain⟨a,cap,rfl⟩:=own_shape hown;have HR2:Hid (R=(emp,100)):=hid (by rw[HR.out,afX hlen]);have hli:(ws.length:Int)<2:=by omega
   clear hown hlen;go_wp2;go_ret2;rw[HR2.out];exact⟨rfl,HB2.out⟩
  obtain⟨g,cap,rfl,hg0,hg1⟩:=hown.form (by omega)
  have hcap:ws.length<=cap:=by
   rcases hown.2 with⟨h1,_⟩|⟨g',cap',cur,hv,_,_,h1,_⟩
   ·cases h1
   simp only[Value.slice.injEq]at hv;omega
  have hcell:∀j,j<ws.length->w2.cell? ⟨g,j,none⟩=some (.string (ws.getD j emp)):=fun j hj=>by
   rw[hown.cellAt j (by omega),amC,alz hj,abs,alz hj];rfl
  obtain⟨w0,r0,rs,rfl⟩:∃w0 r0 rs,ws=w0::r0::rs:=by
   match ws,hlen with
   |[],h=>exact absurd (show 0<2 by omega) h
   |[_],h=>exact absurd (show 1<2 by omega) h
   |a::b::r,_=>exact⟨a,b,r,rfl⟩
  have HRA:Hid (R=match anB w0 r0 rs with
   |some c=>aoD (knR l) c
   |none=>(emp,100)):=hid (HR.out.trans (alt HANY.out))
  obtain⟨n,hn⟩:∃n,n=(w0::r0::rs).length:=⟨_,rfl⟩
  rw[<-hn]at hcap hcell HLEN⊢;have hn2:n=rs.length+2:=by rw[hn];rfl
  have hli:¬(n:Int)<2:=by omega
  have HCE:=hid hcell;have HN:=hid hn2;have hnl:n<=1000001:=HLEN.out;have HSB:=hid (HSY.out w2 HB2.out);clear hn hown hlen hcell hn2 HR HANY HSP hg0 HLEN;go_wp2_with fail
  refine HSB.out.mono ?_;rintro e w3 ⟨B,rfl,hsay,hb3⟩;have HC3:Hid (∀j,j<n->w3.cell? ⟨g,j,none⟩=some (.string ((w0::r0::rs).getD j emp))):=hid (fun j hj=>keep_cell hb3 (HCE.out j hj));obtain⟨S,hS⟩:∃S,S=w2.heap.size:=⟨_,rfl⟩
  rw[<-hS]at hsay hg1⊢;have hlow:=hsay.low
  have HTOP:Hid (∀W,TS S B w3 W->Below w.heap.size w W):=hid (fun W hW=>by
   have h1:=HB2.out.size;have h2:=hb3.size;exact(below_trans HB2.out hb3).trans ((hW.below hlow (by omega)).mono (by omega)))
  have HSA:=hid hsay;have c0:=HC3.out 0 (by have:=HN.out;omega);have c1:=HC3.out 1 (by have:=HN.out;omega);simp only[am7,ank]at c0 c1;clear hsay hb3 HCE HSB HSY HB2 hS;by_cases q1:w0=shareW
  ·subst q1;have HR2:Hid (R=aox (knR l) (r0::rs)):=hid (HRA.out.trans (afY _ _ _));have e1:(shareW.toList==([115,104,97,114,101]:List UInt8))=true:=by kernel_rfl
   have HSH:=hid (rshare_any S B g 1 (cap-1) (n-1) l (r0::rs) w3 HSA.out (by have:=HLL.out;omega) (by have:=HN.out;simp only[alB];omega) (by omega) (fun j hj=>by
    have h1:=HC3.out (j+1) (by have:=HN.out;simp only[alB]at hj;omega);rw[Nat.add_comm];exact h1) hg1 (fun x hx=>HSZ.out x (List.mem_cons_of_mem _ hx)))
   have hn1:1<=n:=by omega
   generalize aox (knR l) (r0::rs)=r at *;obtain⟨ra,re⟩:=r;clear HRA HSZ HLL HTX HSM HC3;go_wp2_with fail
   refine HSH.out.mono ?_;rintro e w5 ⟨rfl,ht⟩;have HT5:=hid ht;clear ht;go_wp2;go_ret2;rw[HR2.out];exact⟨rfl,HTOP.out _ HT5.out⟩
  have e1:(w0.toList==([115,104,97,114,101]:List UInt8))=false:=a0E (l:=[115,104,97,114,101]) q1;have HNM:=hid (fun W=>a0W r0 W (by have:=HSZ.out r0 (by simp);omega));have HQ1:=hid q1;cases hnm:a01 r0 with
  |false=>
   have HR2:Hid (R=(emp,100)):=hid (by rw[HRA.out];unfold anB;rw[if_neg q1,hnm];rfl);rw[hnm]at HNM;clear q1 hnm;go_wp2_with fail
   refine(HNM.out _).mono ?_
   rintro e w4 ⟨rfl,rfl⟩;go_wp2;go_ret2;rw[HR2.out];exact⟨rfl,HTOP.out _ (TS.refl _ _ _)⟩
  | true=>
   rw[hnm]at HNM;have HNR:=hid hnm;clear q1 hnm;go_wp2_with fail
   refine(HNM.out _).mono ?_
   rintro e w4 ⟨rfl,rfl⟩;by_cases qtext:w0=textW
   ·subst qtext;have etext:(textW.toList==([116,101,120,116]:List UInt8))=true:=by kernel_rfl
    have estock:(textW.toList==([115,116,111,99,107]:List UInt8))=false:=by kernel_rfl
    have ebeat:(textW.toList==([98,101,97,116]:List UInt8))=false:=by kernel_rfl
    have efar:(textW.toList==([102,97,114]:List UInt8))=false:=by kernel_rfl
    have edrift:(textW.toList==([100,114,105,102,116]:List UInt8))=false:=by kernel_rfl
    by_cases hl:rs.length=0
    ·have zl:((n:Int)==2)=true:=by rw[beq_iff_eq];have:=HN.out;omega
     obtain rfl:rs=[]:=alK.1 hl;clear hl;have h9:anB textW r0 []=some (.asked 0 [r0] []):=by unfold anB;simp (decide:=true) [HNR.out]
     have HR2:Hid (R=(a0a l r0,if a0a l r0=emp then 5 else 0)):=hid (by rw[HRA.out,h9];exact alu l r0);have HX:=hid (a6d S B l r0 w3 HSA.out (by have:=HLL.out;omega));unfold a5x at HX;generalize (if a0a l r0=emp then (5:Int)else 0)=er at *;generalize a0a l r0=x at *;clear h9;go_wp2_with fail
     refine HX.out.mono ?_;rintro e w5 ⟨rfl,_,ht⟩;have HT5:=hid ht;clear ht;go_wp2;go_ret2;rw[HR2.out];exact⟨rfl,HTOP.out _ HT5.out⟩
    have zl:((n:Int)==2)=false:=by rw[beq_eq_false_iff_ne];have:=HN.out;omega
    have HR2:Hid (R=(emp,100)):=hid (by
     have h9:anB textW r0 rs=none:=by unfold anB;simp (decide:=true) [HNR.out,hl]
     rw[HRA.out,h9])
    clear hl;go_wp2;go_ret2;rw[HR2.out];exact⟨rfl,HTOP.out _ (TS.refl _ _ _)⟩
   have etext:(w0.toList==([116,101,120,116]:List UInt8))=false:=a0E (l:=[116,101,120,116]) qtext;have HQtext:=hid qtext;clear qtext;by_cases qstock:w0=stockW
   ·subst qstock;have etext:(stockW.toList==([116,101,120,116]:List UInt8))=false:=by kernel_rfl
    have estock:(stockW.toList==([115,116,111,99,107]:List UInt8))=true:=by kernel_rfl
    have ebeat:(stockW.toList==([98,101,97,116]:List UInt8))=false:=by kernel_rfl
    have efar:(stockW.toList==([102,97,114]:List UInt8))=false:=by kernel_rfl
    have edrift:(stockW.toList==([100,114,105,102,116]:List UInt8))=false:=by kernel_rfl
    by_cases hl:rs.length=0
    ·have zl:((n:Int)==2)=true:=by rw[beq_iff_eq];have:=HN.out;omega
     obtain rfl:rs=[]:=alK.1 hl;clear hl;have h9:anB stockW r0 []=some (.stock r0):=by unfold anB;simp (decide:=true) [HNR.out]
     have HR2:Hid (R=(itoaB (a0H l r0),0)):=hid (by rw[HRA.out,h9];rfl);have HAT:=hid (a3F S B l r0 w3 HSA.out (by have:=HLL.out;omega));have HSK:=hid (a3E l r0 r0);have HD:=hid (fun W=>a1M (a0H l r0) W (by have:=HSM.out r0;omega) (by have:=HSM.out r0;omega));clear h9;go_wp2_with fail
     refine HAT.out.mono ?_;rintro e w4 ⟨g2,c2,g3,c3,len,u,rfl,hna,hts⟩;have k2:=hna.says.cell.2.2.1;have k3:=hna.sum;rw[HSK.out]at k3;have hil:(anr r0 l:Int)<(len:Int):=by have:=hna.lt;omega
     have hiz:(0:Int)<=(anr r0 l:Int):=by omega
     have HT4:=hid hts;clear hna hts;generalize anr r0 l=i at *;generalize a0H l r0=sm at *;go_wp2_with fail
     refine(HD.out _).mono ?_
     rintro e w5 ⟨rfl,hb5⟩;have HT5:=hid (HT4.out.trans (TS.of_below hb5));clear hb5;go_wp2;go_ret2;rw[HR2.out];exact⟨rfl,HTOP.out _ HT5.out⟩
    have zl:((n:Int)==2)=false:=by rw[beq_eq_false_iff_ne];have:=HN.out;omega
    have HR2:Hid (R=(emp,100)):=hid (by
     have h9:anB stockW r0 rs=none:=by unfold anB;simp (decide:=true) [HNR.out,hl]
     rw[HRA.out,h9])
    clear hl;go_wp2;go_ret2;rw[HR2.out];exact⟨rfl,HTOP.out _ (TS.refl _ _ _)⟩
   have estock:(w0.toList==([115,116,111,99,107]:List UInt8))=false:=a0E (l:=[115,116,111,99,107]) qstock;have HQstock:=hid qstock;clear qstock;by_cases qbeat:w0=beatW
   ·subst qbeat;have etext:(beatW.toList==([116,101,120,116]:List UInt8))=false:=by kernel_rfl
    have estock:(beatW.toList==([115,116,111,99,107]:List UInt8))=false:=by kernel_rfl
    have ebeat:(beatW.toList==([98,101,97,116]:List UInt8))=true:=by kernel_rfl
    have efar:(beatW.toList==([102,97,114]:List UInt8))=false:=by kernel_rfl
    have edrift:(beatW.toList==([100,114,105,102,116]:List UInt8))=false:=by kernel_rfl
    by_cases hl:rs.length=0
    ·have zl:((n:Int)==2)=true:=by rw[beq_iff_eq];have:=HN.out;omega
     obtain rfl:rs=[]:=alK.1 hl;clear hl;have h9:anB beatW r0 []=some (.asked 1 [r0] []):=by unfold anB;simp (decide:=true) [HNR.out]
     have HR2:Hid (R=a0n a1i [r0] (knR l)):=hid (by rw[HRA.out,h9];rfl);have HX:=hid (rbeat_any S B l r0 (HTX.out r0) w3 HSA.out (by have:=HLL.out;omega));generalize a0n a1i [r0] (knR l)=r at *;obtain⟨ra,re⟩:=r;clear h9;go_wp2_with fail
     refine HX.out.mono ?_;rintro e w5 ⟨rfl,ht⟩;have HT5:=hid ht;clear ht;go_wp2;go_ret2;rw[HR2.out];exact⟨rfl,HTOP.out _ HT5.out⟩
    have zl:((n:Int)==2)=false:=by rw[beq_eq_false_iff_ne];have:=HN.out;omega
    have HR2:Hid (R=(emp,100)):=hid (by
     have h9:anB beatW r0 rs=none:=by unfold anB;simp (decide:=true) [HNR.out,hl]
     rw[HRA.out,h9])
    clear hl;go_wp2;go_ret2;rw[HR2.out];exact⟨rfl,HTOP.out _ (TS.refl _ _ _)⟩
   have ebeat:(w0.toList==([98,101,97,116]:List UInt8))=false:=a0E (l:=[98,101,97,116]) qbeat;have HQbeat:=hid qbeat;clear qbeat;by_cases qfar:w0=farW
   ·subst qfar;have etext:(farW.toList==([116,101,120,116]:List UInt8))=false:=by kernel_rfl
    have estock:(farW.toList==([115,116,111,99,107]:List UInt8))=false:=by kernel_rfl
    have ebeat:(farW.toList==([98,101,97,116]:List UInt8))=false:=by kernel_rfl
    have efar:(farW.toList==([102,97,114]:List UInt8))=true:=by kernel_rfl
    have edrift:(farW.toList==([100,114,105,102,116]:List UInt8))=false:=by kernel_rfl
    by_cases hl:rs.length=1
    ·have zl:((n:Int)==3)=true:=by rw[beq_iff_eq];have:=HN.out;omega
     obtain⟨r1,rfl⟩:∃r1,rs=[r1]:=List.length_eq_one_iff.1 hl;clear hl;have c2:=HC3.out 2 (by have:=HN.out;simp only[alB,alH]at this;omega);simp only[am7,ank]at c2;have hn3:(2:Int)<(n:Int):=by have:=HN.out;simp only[alB,alH]at this;omega
     have hn0:(1:Int)<(n:Int):=by omega
     have HNM2:=hid (fun W=>a0W r1 W (by have:=HSZ.out r1 (by simp);omega));cases hnm2:a01 r1 with
     | false=>
      have HR2:Hid (R=(emp,100)):=hid (by
       have h9:anB farW r0 [r1]=none:=by unfold anB;simp (decide:=true) [HNR.out,hnm2]
       rw[HRA.out,h9])
      rw[hnm2]at HNM2;clear hnm2;go_wp2_with fail
      refine(HNM2.out _).mono ?_
      rintro e w5 ⟨rfl,rfl⟩;go_wp2;go_ret2;rw[HR2.out];exact⟨rfl,HTOP.out _ (TS.refl _ _ _)⟩
     | true=>
      have HR2:Hid (R=a0n a2M [r0,r1] (knR l)):=hid (by
       have h9:anB farW r0 [r1]=some (.asked 2 [r0,r1] []):=by unfold anB;simp (decide:=true) [HNR.out,hnm2]
       rw[HRA.out,h9];rfl)
      have HX:=hid (fun W (hW:SaysAt W S B l)=>ak3 S B l r0 r1 (HTX.out r0) (HTX.out r1) W hW (by have:=HLL.out;omega));rw[hnm2]at HNM2;generalize a0n a2M [r0,r1] (knR l)=r at *;obtain⟨ra,re⟩:=r;clear hnm2;go_wp2_with fail
      refine(HNM2.out _).mono ?_
      rintro e w5 ⟨rfl,rfl⟩;have y1:∀W,TS S B w3 W->W.cell? ⟨g,1,none⟩=some (.string r0):=fun W hW=>hW.cell hg1 hlow c1;have y2:∀W,TS S B w3 W->W.cell? ⟨g,2,none⟩=some (.string r1):=fun W hW=>hW.cell hg1 hlow c2;have HDR:Hid (TS S B w3 w3.drew):=hid (TS.of_below (apC _ _).drew);have HX2:=hid (HX.out w3.drew (HSA.out.below (apC _ _).drew));clear c0 c1 c2;go_wp2;have hHeld:=HDR.out;refine wp_region_held_drew (S:=TS S B w3) (by kernel_rfl) hHeld (fun hHeld=>?_);refine tk [0,1,2,3,4,5,6] ?_;repeat (refine tkC hHeld (h:=?_);apply exq;(· intro W3 hS3;go_simp;try rfl);try simp only[gS])
      with_reducible refine tkE ?_
      refine wpAnyH_ready (rs:=[7]) (by kernel_rfl) (by simp) ?_;refine(AllReadyH.cons rfl (fun K hK=>?_) AllReadyH.nil);go_simp;refine HX2.out.mono ?_;rintro e w6 ⟨rfl,ht6⟩;have hk2:=HDR.out.trans ht6;dsimp only;refine hK.out _ _ hk2 (fun hHeld=>?_);have HT6:=hid hk2;clear hK K hk2 ht6;try simp only[Act.put,alR,am5,alZ]
      refine tk [8,9,10,11] ?_;repeat (refine tkC hHeld (h:=?_);apply exq;(· intro W3 hS3;go_simp;try rfl);try simp only[gS])
      with_reducible refine tkE ?_
      refine wpAnyH_done (by kernel_rfl) ?_ _;try simp only[Exit.then]
      go_wp2;go_ret2;rw[HR2.out];exact⟨rfl,HTOP.out _ HT6.out⟩
    have zl:((n:Int)==3)=false:=by rw[beq_eq_false_iff_ne];have:=HN.out;omega
    have HR2:Hid (R=(emp,100)):=hid (by
     have h9:anB farW r0 rs=none:=by unfold anB;simp (decide:=true) [HNR.out,hl]
     rw[HRA.out,h9])
    clear hl;go_wp2;go_ret2;rw[HR2.out];exact⟨rfl,HTOP.out _ (TS.refl _ _ _)⟩
   have efar:(w0.toList==([102,97,114]:List UInt8))=false:=a0E (l:=[102,97,114]) qfar;have HQfar:=hid qfar;clear qfar;by_cases qdrift:w0=driftW
   ·subst qdrift;have etext:(driftW.toList==([116,101,120,116]:List UInt8))=false:=by kernel_rfl
    have estock:(driftW.toList==([115,116,111,99,107]:List UInt8))=false:=by kernel_rfl
    have ebeat:(driftW.toList==([98,101,97,116]:List UInt8))=false:=by kernel_rfl
    have efar:(driftW.toList==([102,97,114]:List UInt8))=false:=by kernel_rfl
    have edrift:(driftW.toList==([100,114,105,102,116]:List UInt8))=true:=by kernel_rfl
    by_cases hl:rs.length=2
    ·have zl:((n:Int)==4)=true:=by rw[beq_iff_eq];have:=HN.out;omega
     obtain⟨r1,r2,rfl⟩:∃r1 r2,rs=[r1,r2]:=by
          match rs,hl with
          |[a,b],_=>exact⟨a,b,rfl⟩
     clear hl;have c2:=HC3.out 2 (by have:=HN.out;simp only[alB,alH]at this;omega);have c3:=HC3.out 3 (by have:=HN.out;simp only[alB,alH]at this;omega);simp only[am7,ank]at c2 c3;have hn3:(2:Int)<(n:Int):=by have:=HN.out;simp only[alB,alH]at this;omega
     have hn4:(3:Int)<(n:Int):=by have:=HN.out;simp only[alB,alH]at this;omega
     have HU1:=hid (fun W=>a5R r1 W (by have:=HSZ.out r1 (by simp);omega));have HU2:=hid (fun W=>a5R r2 W (by have:=HSZ.out r2 (by simp);omega));rw[a5G]at HU1 HU2;unfold a7t at HU1 HU2
     have h9:anB driftW r0 [r1,r2]=match anp r1,anp r2 with
      |some a,some b=>some (.asked 3 [r0] [a,b])
      |_,_=>none:=by unfold anB;cases h1:anp r1<;>cases h2:anp r2<;>simp (decide:=true) [HNR.out,h1,h2]
     have HRB:Hid (R=match (match anp r1,anp r2 with
      |some a,some b=>some (.asked 3 [r0] [a,b])
      |_,_=>none:Option Cmd)with
      |some c=>aoD (knR l) c
      |none=>(emp,100)):=hid (by rw[HRA.out,h9])
     clear h9;cases hv1:anp r1 with
     |none=>
      rw[hv1]at HU1 HRB;have HR2:Hid (R=(emp,100)):=hid (by rw[HRB.out]);simp only[aop,Option.getD_none,an7]at HU1;generalize aop (anp r2)=v2 at *;generalize (anp r2).isSome=b2 at *
      clear hv1 HRB;go_wp2_with fail
      refine(HU1.out _).mono ?_
      rintro e w5 ⟨rfl,rfl⟩;go_wp2_with fail
      refine(HU2.out _).mono ?_
      rintro e w6 ⟨rfl,rfl⟩;go_wp2;go_ret2;rw[HR2.out];exact⟨rfl,HTOP.out _ (TS.refl _ _ _)⟩
     | some a=>
      rw[hv1]at HU1 HRB;simp only[aop,am8,Option.isSome_some]at HU1;cases hv2:anp r2 with
      |none=>
       rw[hv2]at HU2 HRB;have HR2:Hid (R=(emp,100)):=hid (by rw[HRB.out]);simp only[aop,Option.getD_none,an7]at HU2;clear hv1 hv2 HRB;go_wp2_with fail
       refine(HU1.out _).mono ?_
       rintro e w5 ⟨rfl,rfl⟩;go_wp2_with fail
       refine(HU2.out _).mono ?_
       rintro e w6 ⟨rfl,rfl⟩;go_wp2;go_ret2;rw[HR2.out];exact⟨rfl,HTOP.out _ (TS.refl _ _ _)⟩
      |some b=>
       rw[hv2]at HU2 HRB;have HR2:Hid (R=a0n (a15 [a,b]) [r0] (knR l)):=hid (by rw[HRB.out];rfl);simp only[aop,am8,Option.isSome_some]at HU2;have HX:=hid (fun W (hW:SaysAt W S B l)=>rdrift_any S B l r0 a b (HTX.out r0) W hW (by have:=HLL.out;omega));generalize a0n (a15 [a,b]) [r0] (knR l)=r at *;obtain⟨ra,re⟩:=r;clear hv1 hv2 HRB;go_wp2_with fail
       refine(HU1.out _).mono ?_
       rintro e w5 ⟨rfl,rfl⟩;go_wp2_with fail
       refine(HU2.out _).mono ?_
       rintro e w6 ⟨rfl,rfl⟩;have HX2:=hid (HX.out _ HSA.out);go_wp2_with fail
       refine HX2.out.mono ?_;rintro e w5 ⟨rfl,ht⟩;have HT5:=hid ht;clear ht;go_wp2;go_ret2;rw[HR2.out];exact⟨rfl,HTOP.out _ HT5.out⟩
    have zl:((n:Int)==4)=false:=by rw[beq_eq_false_iff_ne];have:=HN.out;omega
    have HR2:Hid (R=(emp,100)):=hid (by
     have h9:anB driftW r0 rs=none:=by unfold anB;simp (decide:=true) [HNR.out,hl]
     rw[HRA.out,h9])
    clear hl;go_wp2;go_ret2;rw[HR2.out];exact⟨rfl,HTOP.out _ (TS.refl _ _ _)⟩
   have edrift:(w0.toList==([100,114,105,102,116]:List UInt8))=false:=a0E (l:=[100,114,105,102,116]) qdrift;have HQdrift:=hid qdrift;clear qdrift
   have HR2:Hid (R=(emp,100)):=hid (by
    have h9:anB w0 r0 rs=none:=by unfold anB;simp (decide:=true) [HNR.out,HQ1.out,HQtext.out,HQstock.out,HQbeat.out,HQfar.out,HQdrift.out]
    rw[HRA.out,h9])
   go_wp2;go_ret2;rw[HR2.out];exact⟨rfl,HTOP.out _ (TS.refl _ _ _)⟩
end Go.Proofs.YtdfkaijeppdhaaaGreatDoor
namespace Go.Proofs.YtdfkaijeppdhaaaGreatDoor
open Go.RowKit Go.Shelf
open Lib (hid)
attribute [local go_sem] Oper.semAt_some
def anT:List UInt8->List (List UInt8)
 |[]=>[]
 |b::r=>if b==10 then [b]::anT r else match anT r with
  |[]=>[[b]]
  |x::xs=>(b::x)::xs
theorem acX:∀l:List UInt8,l≠[]->(Lib.indexByte l 10= -1/\anT l=[l])\/(∃i:Nat,Lib.indexByte l 10=i/\i<l.length/\anT l=l.take (i+1)::anT (l.drop (i+1)))
 |[],h=>absurd rfl h
 | b::r,_=>by
  by_cases h:b=10
  ·subst h;exact .inr ⟨0,by simp[Lib.indexByte],by simp,by simp[anT]⟩
  have hb:(b==10)=false:=by simpa using h
  have hc:anT (b::r)=match anT r with|[]=>[[b]]|x::xs=>(b::x)::xs:=by simp[anT,hb]
  by_cases hr:r=[]
  ·subst hr;exact .inl ⟨by simp[Lib.indexByte,hb],by simp[anT,hb]⟩
  rcases acX r hr with⟨h1,h2⟩|⟨i,h1,h2,h3⟩
  ·exact .inl ⟨by simp[Lib.indexByte,hb,h1],by rw[hc,h2]⟩
  refine .inr ⟨i+1,?_,by simp[h2],?_⟩
  ·unfold Lib.indexByte;rw[hb,h1];have:((i:Int)== -1)=false:=by simp
   simp[this]
  rw[hc,h3];simp
def a2m(x:List UInt8):List UInt8:=Lib.trimSuffix x [10]
theorem a6e(x:List UInt8):a2m (x++[10])=x:=by unfold a2m Lib.trimSuffix Lib.hasSuffix;simp
theorem aaa:∀(l x:List UInt8),x∈anT l->x≠[]
 |[],x,h=>by simp[anT]at h
 | b::r,x,h=>by
  unfold anT at h;split at h
  ·rcases alI.1 h with rfl|h
   ·simp
   exact aaa r x h
  split at h
  ·simp at h;subst h;simp
  rename_i y ys he
  rcases alI.1 h with rfl|h
  ·simp
  exact aaa r x (by rw[he];simp[h])
theorem a6f(z:List UInt8)(c:UInt8)(h:¬c=10):a2m (z++[c])=z++[c]:=by
 unfold a2m Lib.trimSuffix Lib.hasSuffix;have h2:¬(10:UInt8)=c:=fun e=>h e.symm;simp[h,h2]
theorem afZ(b:UInt8)(x:List UInt8)(hx:x≠[]):a2m (b::x)=b::a2m x:=by
 obtain⟨y,c,rfl⟩:∃y c,x=y++[c]:=⟨x.dropLast,x.getLast hx,(List.dropLast_concat_getLast hx).symm⟩
 by_cases h:c=10
 ·subst h;rw[a6e,<-alM,a6e]
 rw[a6f _ _ h,<-alM,a6f _ _ h]
theorem a9I:∀l:List UInt8,(anT l).map a2m=a1n l
 |[]=>rfl
 | b::r=>by
  have ih:=a9I r;by_cases h:(b==10)=true
  ·have hb:b=10:=by simpa using h
   subst hb;simp only[anT,a1n,h,if_true,alW,ih];rw[show a2m [10]=[]from a6e []]
  have hb:(b==10)=false:=by simpa using h
  have hb2:¬b=10:=by simpa using h
  simp only[anT,a1n,hb,Bool.false_eq_true,if_false];cases hr:anT r with
  |nil=>
   rw[hr]at ih;rw[<-ih];have:a2m [b]=[b]:=a6f [] b hb2;simp[this]
  |cons x xs=>
   rw[hr]at ih;have hx:x≠[]:=aaa r x (by rw[hr];simp);rw[<-ih];simp only[alW,afZ b x hx]
def a1r(s:ByteArray):List ByteArray:=(anT s.data.toList).map bsB
theorem ag0(s:ByteArray)(h:0<s.size):(Lib.indexByte s.data.toList 10= -1/\a1r s=[s])\/
  (∃i:Nat,Lib.indexByte s.data.toList 10=i/\i<s.size/\a1r s=s.extract 0 (i+1)::a1r (s.extract (i+1) s.size)):=by
 rcases acX s.data.toList (by intro e;have h9:=a03 s;rw[e]at h9;have h8:s.size=0:=h9;omega)with⟨h1,h2⟩|⟨i,h1,h2,h3⟩
 ·refine .inl ⟨h1,?_⟩
  unfold a1r;rw[h2];simp[a3W]
 refine .inr ⟨i,h1,by rw[a03];exact h2,?_⟩
 unfold a1r;rw[h3,ba_take,ba_drop];simp[bsB]
theorem a9J{s:ByteArray}(h:s.size=0):a1r s=[]:=by
 have:s.data.toList=[]:=alK.1 (by rw[<-a03];exact h);unfold a1r;rw[this];rfl
def LnAt(bs:Nat)(s:ByteArray)(X:World):Prop:=X.heap[bs]? =some (.cells #[.string s] 9 (0,0))
def lnS(bs:Nat)(k:Nat):Prop:=k=bs
theorem LnAt.set{bs:Nat}{s:ByteArray}{X:World}(h:LnAt bs s X)(t:ByteArray):LnAt bs t (X.setCell ⟨bs,0,none⟩ (.string t)):=by
 obtain⟨hlt,hk⟩:=alx.1 h;show (X.heap.modify bs _)[bs]? =_;rw[alP (by rw[amy];exact hlt),amc,hk];simp
def acY(bs:Nat)(X:World):Nat:=match X.heap[bs]? with
 |some (Obj.cells A _ _)=>match A[0]? with
  |some (Value.string s)=>s.size
  |_=>0
 |_=>0
theorem a56{bs:Nat}{s:ByteArray}{X:World}(h:LnAt bs s X):acY bs X=s.size:=by
 unfold acY;rw[h];rfl
theorem pre_snoc{α:Type}(p:List α)(x:α)(r:List α):p++[x]<+:p++x::r:=⟨r,by simp⟩
theorem aip(n:Nat)(hn:1<=n)(bs:Nat)(s:ByteArray)(hs:s.size<=9223372036854775806):
  SeqOwn Fence.wide n Tryz.prog 125 #[.pointer (some ⟨bs,0,none⟩)] Value.string (lnS bs) (lnS bs) (LnAt bs s) (a1r s):=by
 intro l J Jx W hJ hY hSt h0;obtain⟨xs,hxs⟩:∃xs,xs=a1r s:=⟨_,rfl⟩
 rw[<-hxs]at hY⊢;refine callsIn_of_wp Tryz.func125 rfl trivial ?_ rfl;simp only[Tryz.ntmps125,amp,alB,alH,Nat.reduceAdd,Nat.reduceSub,ame,amf,amq,amj,alY,alM];have HST:=hid hSt;have H0:=hid h0;have HXS:=hid hxs;have HY:=hid hY;have HJ:=hid hJ;clear hSt h0 hxs hY hJ;gi_wp2;gi_loopw [3,4] (fun i f wr=>∃(pre:List ByteArray) (r:ByteArray),r.size<=s.size/\Hid (xs=pre++a1r r)/\Hid (J pre wr)/\Hid (LnAt bs r wr)) (fun _ _ wr=>acY bs wr)
 case atStart=>exact⟨[],s,aly _,HXS,H0,HST⟩
 case round=>
  obtain⟨pre,r,hr,hx,hj,hst⟩:=hrel;have d2:wr.cell? ⟨bs,0,none⟩=some (.string r):=heap_cell hst.out rfl;have d4:wr.frozen? ⟨bs,0,none⟩=false:=by have h9:=hst.out;unfold LnAt at h9;simp[World.frozen?,h9]
  by_cases hz:r.size=0
  ·have hlt0:¬(0:Int)<(r.size:Int):=by omega
   have HE:Hid (xs=pre):=hid (by rw[hx.out,a9J hz,amv]);gi_wp2;go_end0
   exact⟨⟨_,rfl⟩,.inl (by rw[HE.out];exact hj.out)⟩
  have hlt0:(0:Int)<(r.size:Int):=by omega
  rcases ag0 r (by omega)with⟨hi,he⟩|⟨i,hi,hlt,he⟩
  ·gi_wp2_with fail
   refine⟨trivial,callsIn_wide.2 ((Tryz.strings_IndexByte r 10 wr).mono ?_)⟩;rintro e w' ⟨rfl,rfl⟩;rw[show (Int.toNat 10).toUInt8=(10:UInt8)from rfl,hi];have HJ2:=hid (HJ.out _ _ (w'.setCell ⟨bs,0,none⟩ (.string ⟨#[]⟩)) (a1I _ _ _ _ rfl) hj.out);obtain⟨fn,tmps,assign,body,hy,hR⟩:=HY.out pre r (w'.setCell ⟨bs,0,none⟩ (.string ⟨#[]⟩)) (by rw[hx.out,he];exact an2 _) HJ2.out;gi_wp2;refine hR.mono ?_;rintro e W3 (⟨rfl,hJ3,hk3⟩|⟨rfl,hJx3⟩)
   ·have hst3:LnAt bs ⟨#[]⟩ W3:=(hk3 _ rfl).trans (hst.out.set ⟨#[]⟩)
    have d2:W3.cell? ⟨bs,0,none⟩=some (.string ⟨#[]⟩):=heap_cell hst3 rfl;gi_wp2;go_roundw
    case rel=>exact⟨pre++[r],⟨#[]⟩,alE _,hid (by rw[hx.out,he,a9J (by rfl)];simp),hid hJ3,hid hst3⟩
    case measure=>rw[a56 hst3,a56 hst.out];show 0<_;omega
   gi_wp2;refine bodyPost_ret (results_none rfl _ _ _) rfl ?_;exact⟨⟨_,rfl⟩,.inr ⟨_,by rw[hx.out,he];exact an2 _,hJx3⟩⟩
  gi_wp2_with fail
  refine⟨trivial,callsIn_wide.2 ((Tryz.strings_IndexByte r 10 wr).mono ?_)⟩;rintro e w' ⟨rfl,rfl⟩;rw[show (Int.toNat 10).toUInt8=(10:UInt8)from rfl,hi];have HJ2:=hid (HJ.out _ _ ((w'.setCell ⟨bs,0,none⟩ (.string (r.extract (i+1) r.size))).drew) ((a1I (S:=lnS bs) _ _ _ _ rfl).trans (adz _)) hj.out);obtain⟨fn,tmps,assign,body,hy,hR⟩:=HY.out pre (r.extract 0 (i+1)) ((w'.setCell ⟨bs,0,none⟩ (.string (r.extract (i+1) r.size))).drew) (by rw[hx.out,he];exact pre_snoc _ _ _) HJ2.out;gi_wp2;gi_region
  gi_wp2;refine hR.mono ?_;rintro e W3 (⟨rfl,hJ3,hk3⟩|⟨rfl,hJx3⟩)
  ·have hst3:LnAt bs (r.extract (i+1) r.size) W3:=(hk3 _ rfl).trans (LnAt.set hst.out _)
   have d2:W3.cell? ⟨bs,0,none⟩=some (.string (r.extract (i+1) r.size)):=heap_cell hst3 rfl;gi_wp2;go_roundw
   case rel=>exact⟨pre++[r.extract 0 (i+1)],r.extract (i+1) r.size,by simp;omega,hid (by rw[hx.out,he];simp),hid hJ3,hid hst3⟩
   case measure=>rw[a56 hst3,a56 hst.out];simp;omega
  gi_wp2;refine bodyPost_ret (results_none rfl _ _ _) rfl ?_;exact⟨⟨_,rfl⟩,.inr ⟨_,by rw[hx.out,he];exact pre_snoc _ _ _,hJx3⟩⟩
theorem aiq(s:ByteArray)(w:World):
  Calls Tryz.prog 98 #[.string s] w fun e w'=>e= .returned (.func (.func 125) #[] #[.pointer (some ⟨w.heap.size,0,none⟩)])/\
   w'=w.alloc (.cells #[.string s] 9):=by
 go_enter Tryz.func98,Tryz.ntmps98;go_wp2;go_ret;exact⟨rfl,rfl⟩
theorem akc(s:ByteArray)(w:World):LnAt w.heap.size s (w.alloc (.cells #[.string s] 9)):=World.alloc_heap_new w _
theorem LnAt.below{bs:Nat}{s:ByteArray}{X X':World}(h:LnAt bs s X)(hb:Below X.heap.size X X'):LnAt bs s X':=
 (hb.block _ (alx.1 h).1).trans h
end Go.Proofs.YtdfkaijeppdhaaaGreatDoor
