/- Texts of this claim, laid together: Uf, Rs, Se. -/
import Derived.Test.YtdfkaijeppdhaaaGreatDoorZHp30
import Derived.Test.YtdfkaijeppdhaaaGreatDoorZHp40
import Derived.Test.YtdfkaijeppdhaaaGreatDoorZHp41
import Derived.Test.YtdfkaijeppdhaaaGreatDoorZHp42
import Derived.Test.YtdfkaijeppdhaaaGreatDoorZHp32
import Derived.BigQuiet
import Derived.Deep.QuietTactic
import Derived.Test.YtdfkaijeppdhaaaGreatDoorZHp02
import Derived.Test.YtdfkaijeppdhaaaGreatDoorZHp11

set_option maxRecDepth 100000
set_option maxHeartbeats 8000000
set_option linter.unusedSimpArgs false
set_option linter.unusedVariables false

namespace Go.Proofs.YtdfkaijeppdhaaaGreatDoor
open Go.RowKit Go.Shelf
open Lib (hid)
def ansW(kn:Kn)(ws:List ByteArray):ByteArray×Int:=match a3P ws with
 |some c=>askV kn c
 |none=>(emp,100)
theorem aeQ(b:Book)(line:ByteArray):askB b line=ansW (a06 (allB b)) (splitA 32 line):=by
 unfold ansW;rw[aiw];unfold askB askP;cases a02 line with
 |none=>rfl
 |some c=>cases c<;>rfl
theorem aiy{kn:Kn}{ws:List ByteArray}(h:ws.any (fun x=>decide (x=emp))=true):ansW kn ws=(emp,100):=by
 unfold ansW a3P;rw[if_pos h]
theorem aeR{kn:Kn}{ws:List ByteArray}(h:ws.length<2):ansW kn ws=(emp,100):=by
 unfold ansW a3P;split
 ·rename_i c hc
  split at hc
  ·cases hc
  match ws,h,hc with
  |[],_,hc=>cases hc
  |[_],_,hc=>cases hc
 rfl
theorem ajC{kn:Kn}{w0 r0:ByteArray}{rs:List ByteArray}(h:(w0::r0::rs).any (fun x=>decide (x=emp))=false):ansW kn (w0::r0::rs)=match askC w0 r0 rs with
 |some c=>askV kn c
 |none=>(emp,100):=by
 unfold ansW a3P;rw[h];rfl
theorem aeS(kn:Kn)(r0:ByteArray)(rs:List ByteArray):(match askC shareW r0 rs with
 |some c=>askV kn c
 |none=>(emp,100))=shrQ kn (r0::rs):=by
 unfold askC shrQ;rw[if_pos rfl];simp only[List.getD_cons_zero,List.drop_succ_cons,List.drop_zero,List.length_cons];cases numV r0 with
 |none=>rfl
 |some n=>
  simp only;by_cases h:rs.length<1\/8<rs.length
  ·rw[if_pos h,if_pos (show rs.length+1<2\/9<rs.length+1 by omega)]
  rw[if_neg h,if_neg (show¬(rs.length+1<2\/9<rs.length+1) by omega)];by_cases h2:rs.all a01=true
  ·rw[if_pos h2,if_pos h2];rfl
  rw[if_neg h2,if_neg h2]
theorem ajD(l:List Rw)(n:ByteArray):a0h a1N [n] (knR l)=(a09 l n,if a09 l n=emp then 5 else 0):=by
 rw[a6K];by_cases h:a09 l n=emp
 ·rw[if_pos h,if_pos h,h]
 rw[if_neg h,if_neg h];rfl
theorem aiz(P:Nat)(pn:Int)(vs:Nat->Value)(b:Book)(line:ByteArray)(hs:line.size<=1000000)(w:World)(h:RfAt w P pn vs b)(hok:a08 b):
  Calls Tryz.prog 43 #[.pointer (some ⟨P,0,none⟩),.string line] w (a0t (askB b line) w):=by
 obtain⟨ws,hws⟩:∃ws,ws=splitA 32 line:=⟨_,rfl⟩
 obtain⟨R,hR⟩:∃R,R=askB b line:=⟨_,rfl⟩
 rw[<-hR];have HR:Hid (R=ansW (a06 (allB b)) ws):=hid (by rw[hR,hws,aeQ]);have HSP:=hid (aeN line hs w);rw[<-hws]at HSP
 have HSZ:Hid (∀x∈ws,x.size<=1000000):=hid (fun x hx=>by
  have:=a6X (c:=32) (s:=line) (x:=x) (by rw[<-hws];exact hx);omega)
 have HLEN:Hid (ws.length<=1000001):=hid (by
  have h1:=splitA_len 32 line;rw[<-hws]at h1;have:=List.count_le_length (a:=(32:UInt8)) (l:=line.data.toList);rw[<-a03]at this;omega)
 have HSY:=hid (fun W (hW:Below w.heap.size w W)=>aac P pn vs b W (h.below hW) hok);unfold a6M at HSY
 have HLL:Hid ((a0r (allB b) []).length<=240):=hid (by
  have:=a1R (allB b) [];have h2:(allB b).length<=240:=by rw[a10];exact a1w hok
  simp only[List.length_nil]at this;omega)
 have HTX:Hid (∀x,(a09 (a0r (allB b) []) x).size<=1000):=hid (fun x=>by
  by_cases he:a09 (a0r (allB b) []) x=emp
  ·rw[he];decide
  have h2:(a06 (allB b)).txt x=some (a09 (a0r (allB b) []) x):=by rw[<-a5G];exact a2s he
  have:=aa2 hok x _ h2;omega)
 have HSM:Hid (∀x, -100000000<=a0A (a0r (allB b) []) x/\a0A (a0r (allB b) []) x<=100000000):=hid (fun x=>a2u (allB b) (by rw[a10];have:=a1w hok;omega) x);rw[<-a5G]at HR;generalize a0r (allB b) []=l at *;unfold aaa at HSP;clear h hok hs hR hws;go_enter Tryz.func43,Tryz.ntmps43;go_wp2_with fail
 refine HSP.out.mono ?_;rintro e w2 ⟨hsa,hsb,hb2⟩;have HB2:=hid hb2;clear hb2;cases hany:ws.any (fun x=>decide (x=emp))with
 |true=>
  obtain rfl:=hsa hany;have HR2:Hid (R=(emp,100)):=hid (by rw[HR.out,aiy hany]);clear hsa hsb hany;go_wp2;go_ret2;rw[HR2.out];exact⟨rfl,HB2.out⟩
 | false=>
  obtain⟨v,rfl,hown⟩:=hsb hany;have HANY:=hid hany;clear hsa hsb hany;by_cases hlen:ws.length<2
  ·obtain⟨a,cap,rfl⟩:=own_shape hown;have HR2:Hid (R=(emp,100)):=hid (by rw[HR.out,aeR hlen]);have hli:(ws.length:Int)<2:=by omega
   clear hown hlen;go_wp2;go_ret2;rw[HR2.out];exact⟨rfl,HB2.out⟩
  obtain⟨g,cap,rfl,hg0,hg1⟩:=hown.form (by omega)
  have hcap:ws.length<=cap:=by
   rcases hown.2 with⟨h1,_⟩|⟨g',cap',cur,hv,_,_,h1,_⟩
   ·cases h1
   simp only[Value.slice.injEq]at hv;omega
  have hcell:∀j,j<ws.length->w2.cell? ⟨g,j,none⟩=some (.string (ws.getD j emp)):=fun j hj=>by
   rw[hown.cellAt j (by omega),List.getElem?_map,List.getElem?_eq_getElem hj,List.getD_eq_getElem?_getD,List.getElem?_eq_getElem hj];rfl
  obtain⟨w0,r0,rs,rfl⟩:∃w0 r0 rs,ws=w0::r0::rs:=by
   match ws,hlen with
   |[],h=>exact absurd (show 0<2 by omega) h
   |[_],h=>exact absurd (show 1<2 by omega) h
   |a::b::r,_=>exact⟨a,b,r,rfl⟩
  have HRA:Hid (R=match askC w0 r0 rs with
   |some c=>askV (knR l) c
   |none=>(emp,100)):=hid (HR.out.trans (ajC HANY.out))
  obtain⟨n,hn⟩:∃n,n=(w0::r0::rs).length:=⟨_,rfl⟩
  rw[<-hn]at hcap hcell HLEN⊢;have hn2:n=rs.length+2:=by rw[hn];rfl
  have hli:¬(n:Int)<2:=by omega
  have HCE:=hid hcell;have HN:=hid hn2;have hnl:n<=1000001:=HLEN.out;have HSB:=hid (HSY.out w2 HB2.out);clear hn hown hlen hcell hn2 HR HANY HSP hg0 HLEN;go_wp2_with fail
  refine HSB.out.mono ?_;rintro e w3 ⟨B,rfl,hsay,hb3⟩;have HC3:Hid (∀j,j<n->w3.cell? ⟨g,j,none⟩=some (.string ((w0::r0::rs).getD j emp))):=hid (fun j hj=>keep_cell hb3 (HCE.out j hj));obtain⟨S,hS⟩:∃S,S=w2.heap.size:=⟨_,rfl⟩
  rw[<-hS]at hsay hg1⊢;have hlow:=hsay.low
  have HTOP:Hid (∀W,TS S B w3 W->Below w.heap.size w W):=hid (fun W hW=>by
   have h1:=HB2.out.size;have h2:=hb3.size;exact(below_trans HB2.out hb3).trans ((hW.below hlow (by omega)).mono (by omega)))
  have HSA:=hid hsay;have c0:=HC3.out 0 (by have:=HN.out;omega);have c1:=HC3.out 1 (by have:=HN.out;omega);simp only[List.getD_cons_zero,List.getD_cons_succ]at c0 c1;clear hsay hb3 HCE HSB HSY HB2 hS;by_cases q1:w0=shareW
  ·subst q1;have HR2:Hid (R=shrQ (knR l) (r0::rs)):=hid (HRA.out.trans (aeS _ _ _));have e1:(shareW.toList==([115,104,97,114,101]:List UInt8))=true:=by kernel_rfl
   have HSH:=hid (rshare_any S B g 1 (cap-1) (n-1) l (r0::rs) w3 HSA.out (by have:=HLL.out;omega) (by have:=HN.out;simp only[List.length_cons];omega) (by omega) (fun j hj=>by
    have h1:=HC3.out (j+1) (by have:=HN.out;simp only[List.length_cons]at hj;omega);rw[Nat.add_comm];exact h1) hg1 (fun x hx=>HSZ.out x (List.mem_cons_of_mem _ hx)))
   have hn1:1<=n:=by omega
   generalize shrQ (knR l) (r0::rs)=r at *;obtain⟨ra,re⟩:=r;clear HRA HSZ HLL HTX HSM HC3;go_wp2_with fail
   refine HSH.out.mono ?_;rintro e w5 ⟨rfl,ht⟩;have HT5:=hid ht;clear ht;go_wp2;go_ret2;rw[HR2.out];exact⟨rfl,HTOP.out _ HT5.out⟩
  have e1:(w0.toList==([115,104,97,114,101]:List UInt8))=false:=a0u (l:=[115,104,97,114,101]) q1;have HNM:=hid (fun W=>a0M r0 W (by have:=HSZ.out r0 (by simp);omega));have HQ1:=hid q1;cases hnm:a01 r0 with
  |false=>
   have HR2:Hid (R=(emp,100)):=hid (by rw[HRA.out];unfold askC;rw[if_neg q1,hnm];rfl);rw[hnm]at HNM;clear q1 hnm;go_wp2_with fail
   refine(HNM.out _).mono ?_
   rintro e w4 ⟨rfl,rfl⟩;go_wp2;go_ret2;rw[HR2.out];exact⟨rfl,HTOP.out _ (TS.refl _ _ _)⟩
  | true=>
   rw[hnm]at HNM;have HNR:=hid hnm;clear q1 hnm;go_wp2_with fail
   refine(HNM.out _).mono ?_
   rintro e w4 ⟨rfl,rfl⟩;by_cases qtext:w0=textW
   ·subst qtext;have etext:(textW.toList==([116,101,120,116]:List UInt8))=true:=by kernel_rfl
    have estock:(textW.toList==([115,116,111,99,107]:List UInt8))=false:=by kernel_rfl
    have ebeat:(textW.toList==([98,101,97,116]:List UInt8))=false:=by kernel_rfl
    have efar:(textW.toList==([102,97,114]:List UInt8))=false:=by kernel_rfl
    have edrift:(textW.toList==([100,114,105,102,116]:List UInt8))=false:=by kernel_rfl
    by_cases hl:rs.length=0
    ·have zl:((n:Int)==2)=true:=by rw[beq_iff_eq];have:=HN.out;omega
     obtain rfl:rs=[]:=List.length_eq_zero_iff.1 hl;clear hl;have h9:askC textW r0 []=some (.asked 0 [r0] []):=by unfold askC;simp (decide:=true) [HNR.out]
     have HR2:Hid (R=(a09 l r0,if a09 l r0=emp then 5 else 0)):=hid (by rw[HRA.out,h9];exact ajD l r0);have HX:=hid (a5J S B l r0 w3 HSA.out (by have:=HLL.out;omega));unfold a57 at HX;generalize (if a09 l r0=emp then (5:Int)else 0)=er at *;generalize a09 l r0=x at *;clear h9;go_wp2_with fail
     refine HX.out.mono ?_;rintro e w5 ⟨rfl,_,ht⟩;have HT5:=hid ht;clear ht;go_wp2;go_ret2;rw[HR2.out];exact⟨rfl,HTOP.out _ HT5.out⟩
    have zl:((n:Int)==2)=false:=by rw[beq_eq_false_iff_ne];have:=HN.out;omega
    have HR2:Hid (R=(emp,100)):=hid (by
     have h9:askC textW r0 rs=none:=by unfold askC;simp (decide:=true) [HNR.out,hl]
     rw[HRA.out,h9])
    clear hl;go_wp2;go_ret2;rw[HR2.out];exact⟨rfl,HTOP.out _ (TS.refl _ _ _)⟩
   have etext:(w0.toList==([116,101,120,116]:List UInt8))=false:=a0u (l:=[116,101,120,116]) qtext;have HQtext:=hid qtext;clear qtext;by_cases qstock:w0=stockW
   ·subst qstock;have etext:(stockW.toList==([116,101,120,116]:List UInt8))=false:=by kernel_rfl
    have estock:(stockW.toList==([115,116,111,99,107]:List UInt8))=true:=by kernel_rfl
    have ebeat:(stockW.toList==([98,101,97,116]:List UInt8))=false:=by kernel_rfl
    have efar:(stockW.toList==([102,97,114]:List UInt8))=false:=by kernel_rfl
    have edrift:(stockW.toList==([100,114,105,102,116]:List UInt8))=false:=by kernel_rfl
    by_cases hl:rs.length=0
    ·have zl:((n:Int)==2)=true:=by rw[beq_iff_eq];have:=HN.out;omega
     obtain rfl:rs=[]:=List.length_eq_zero_iff.1 hl;clear hl;have h9:askC stockW r0 []=some (.stock r0):=by unfold askC;simp (decide:=true) [HNR.out]
     have HR2:Hid (R=(itoaB (a0A l r0),0)):=hid (by rw[HRA.out,h9];rfl);have HAT:=hid (a3s S B l r0 w3 HSA.out (by have:=HLL.out;omega));have HSK:=hid (a3r l r0 r0);have HD:=hid (fun W=>a1P (a0A l r0) W (by have:=HSM.out r0;omega) (by have:=HSM.out r0;omega));clear h9;go_wp2_with fail
     refine HAT.out.mono ?_;rintro e w4 ⟨g2,c2,g3,c3,len,u,rfl,hna,hts⟩;have k2:=hna.says.cell.2.2.1;have k3:=hna.sum;rw[HSK.out]at k3;have hil:(rsAt r0 l:Int)<(len:Int):=by have:=hna.lt;omega
     have hiz:(0:Int)<=(rsAt r0 l:Int):=by omega
     have HT4:=hid hts;clear hna hts;generalize rsAt r0 l=i at *;generalize a0A l r0=sm at *;go_wp2_with fail
     refine(HD.out _).mono ?_
     rintro e w5 ⟨rfl,hb5⟩;have HT5:=hid (HT4.out.trans (TS.of_below hb5));clear hb5;go_wp2;go_ret2;rw[HR2.out];exact⟨rfl,HTOP.out _ HT5.out⟩
    have zl:((n:Int)==2)=false:=by rw[beq_eq_false_iff_ne];have:=HN.out;omega
    have HR2:Hid (R=(emp,100)):=hid (by
     have h9:askC stockW r0 rs=none:=by unfold askC;simp (decide:=true) [HNR.out,hl]
     rw[HRA.out,h9])
    clear hl;go_wp2;go_ret2;rw[HR2.out];exact⟨rfl,HTOP.out _ (TS.refl _ _ _)⟩
   have estock:(w0.toList==([115,116,111,99,107]:List UInt8))=false:=a0u (l:=[115,116,111,99,107]) qstock;have HQstock:=hid qstock;clear qstock;by_cases qbeat:w0=beatW
   ·subst qbeat;have etext:(beatW.toList==([116,101,120,116]:List UInt8))=false:=by kernel_rfl
    have estock:(beatW.toList==([115,116,111,99,107]:List UInt8))=false:=by kernel_rfl
    have ebeat:(beatW.toList==([98,101,97,116]:List UInt8))=true:=by kernel_rfl
    have efar:(beatW.toList==([102,97,114]:List UInt8))=false:=by kernel_rfl
    have edrift:(beatW.toList==([100,114,105,102,116]:List UInt8))=false:=by kernel_rfl
    by_cases hl:rs.length=0
    ·have zl:((n:Int)==2)=true:=by rw[beq_iff_eq];have:=HN.out;omega
     obtain rfl:rs=[]:=List.length_eq_zero_iff.1 hl;clear hl;have h9:askC beatW r0 []=some (.asked 1 [r0] []):=by unfold askC;simp (decide:=true) [HNR.out]
     have HR2:Hid (R=a0h a14 [r0] (knR l)):=hid (by rw[HRA.out,h9];rfl);have HX:=hid (rbeat_any S B l r0 (HTX.out r0) w3 HSA.out (by have:=HLL.out;omega));generalize a0h a14 [r0] (knR l)=r at *;obtain⟨ra,re⟩:=r;clear h9;go_wp2_with fail
     refine HX.out.mono ?_;rintro e w5 ⟨rfl,ht⟩;have HT5:=hid ht;clear ht;go_wp2;go_ret2;rw[HR2.out];exact⟨rfl,HTOP.out _ HT5.out⟩
    have zl:((n:Int)==2)=false:=by rw[beq_eq_false_iff_ne];have:=HN.out;omega
    have HR2:Hid (R=(emp,100)):=hid (by
     have h9:askC beatW r0 rs=none:=by unfold askC;simp (decide:=true) [HNR.out,hl]
     rw[HRA.out,h9])
    clear hl;go_wp2;go_ret2;rw[HR2.out];exact⟨rfl,HTOP.out _ (TS.refl _ _ _)⟩
   have ebeat:(w0.toList==([98,101,97,116]:List UInt8))=false:=a0u (l:=[98,101,97,116]) qbeat;have HQbeat:=hid qbeat;clear qbeat;by_cases qfar:w0=farW
   ·subst qfar;have etext:(farW.toList==([116,101,120,116]:List UInt8))=false:=by kernel_rfl
    have estock:(farW.toList==([115,116,111,99,107]:List UInt8))=false:=by kernel_rfl
    have ebeat:(farW.toList==([98,101,97,116]:List UInt8))=false:=by kernel_rfl
    have efar:(farW.toList==([102,97,114]:List UInt8))=true:=by kernel_rfl
    have edrift:(farW.toList==([100,114,105,102,116]:List UInt8))=false:=by kernel_rfl
    by_cases hl:rs.length=1
    ·have zl:((n:Int)==3)=true:=by rw[beq_iff_eq];have:=HN.out;omega
     obtain⟨r1,rfl⟩:∃r1,rs=[r1]:=List.length_eq_one_iff.1 hl;clear hl;have c2:=HC3.out 2 (by have:=HN.out;simp only[List.length_cons,List.length_nil]at this;omega);simp only[List.getD_cons_zero,List.getD_cons_succ]at c2;have hn3:(2:Int)<(n:Int):=by have:=HN.out;simp only[List.length_cons,List.length_nil]at this;omega
     have hn0:(1:Int)<(n:Int):=by omega
     have HNM2:=hid (fun W=>a0M r1 W (by have:=HSZ.out r1 (by simp);omega));cases hnm2:a01 r1 with
     | false=>
      have HR2:Hid (R=(emp,100)):=hid (by
       have h9:askC farW r0 [r1]=none:=by unfold askC;simp (decide:=true) [HNR.out,hnm2]
       rw[HRA.out,h9])
      rw[hnm2]at HNM2;clear hnm2;go_wp2_with fail
      refine(HNM2.out _).mono ?_
      rintro e w5 ⟨rfl,rfl⟩;go_wp2;go_ret2;rw[HR2.out];exact⟨rfl,HTOP.out _ (TS.refl _ _ _)⟩
     | true=>
      have HR2:Hid (R=a0h a2q [r0,r1] (knR l)):=hid (by
       have h9:askC farW r0 [r1]=some (.asked 2 [r0,r1] []):=by unfold askC;simp (decide:=true) [HNR.out,hnm2]
       rw[HRA.out,h9];rfl)
      have HX:=hid (fun W (hW:SaysAt W S B l)=>air S B l r0 r1 (HTX.out r0) (HTX.out r1) W hW (by have:=HLL.out;omega));rw[hnm2]at HNM2;generalize a0h a2q [r0,r1] (knR l)=r at *;obtain⟨ra,re⟩:=r;clear hnm2;go_wp2_with fail
      refine(HNM2.out _).mono ?_
      rintro e w5 ⟨rfl,rfl⟩;have y1:∀W,TS S B w3 W->W.cell? ⟨g,1,none⟩=some (.string r0):=fun W hW=>hW.cell hg1 hlow c1;have y2:∀W,TS S B w3 W->W.cell? ⟨g,2,none⟩=some (.string r1):=fun W hW=>hW.cell hg1 hlow c2;have HDR:Hid (TS S B w3 w3.drew):=hid (TS.of_below (Below.refl _ _).drew);have HX2:=hid (HX.out w3.drew (HSA.out.below (Below.refl _ _).drew));clear c0 c1 c2;go_wp2;have hHeld:=HDR.out;refine wp_region_held_drew (S:=TS S B w3) (by kernel_rfl) hHeld (fun hHeld=>?_);refine tk [0,1,2,3,4,5,6] ?_;repeat (refine tkC hHeld (h:=?_);apply exq;(· intro W3 hS3;go_simp;try rfl);try simp only[gS])
      with_reducible refine tkE ?_
      refine wpAnyH_ready (rs:=[7]) (by kernel_rfl) (by simp) ?_;refine(AllReadyH.cons rfl (fun K hK=>?_) AllReadyH.nil);go_simp;refine HX2.out.mono ?_;rintro e w6 ⟨rfl,ht6⟩;have hk2:=HDR.out.trans ht6;dsimp only;refine hK.out _ _ hk2 (fun hHeld=>?_);have HT6:=hid hk2;clear hK K hk2 ht6;try simp only[Act.put,List.setIfInBounds_toArray,List.set_cons_zero,List.set_cons_succ]
      refine tk [8,9,10,11] ?_;repeat (refine tkC hHeld (h:=?_);apply exq;(· intro W3 hS3;go_simp;try rfl);try simp only[gS])
      with_reducible refine tkE ?_
      refine wpAnyH_done (by kernel_rfl) ?_ _;try simp only[Exit.then]
      go_wp2;go_ret2;rw[HR2.out];exact⟨rfl,HTOP.out _ HT6.out⟩
    have zl:((n:Int)==3)=false:=by rw[beq_eq_false_iff_ne];have:=HN.out;omega
    have HR2:Hid (R=(emp,100)):=hid (by
     have h9:askC farW r0 rs=none:=by unfold askC;simp (decide:=true) [HNR.out,hl]
     rw[HRA.out,h9])
    clear hl;go_wp2;go_ret2;rw[HR2.out];exact⟨rfl,HTOP.out _ (TS.refl _ _ _)⟩
   have efar:(w0.toList==([102,97,114]:List UInt8))=false:=a0u (l:=[102,97,114]) qfar;have HQfar:=hid qfar;clear qfar;by_cases qdrift:w0=driftW
   ·subst qdrift;have etext:(driftW.toList==([116,101,120,116]:List UInt8))=false:=by kernel_rfl
    have estock:(driftW.toList==([115,116,111,99,107]:List UInt8))=false:=by kernel_rfl
    have ebeat:(driftW.toList==([98,101,97,116]:List UInt8))=false:=by kernel_rfl
    have efar:(driftW.toList==([102,97,114]:List UInt8))=false:=by kernel_rfl
    have edrift:(driftW.toList==([100,114,105,102,116]:List UInt8))=true:=by kernel_rfl
    by_cases hl:rs.length=2
    ·have zl:((n:Int)==4)=true:=by rw[beq_iff_eq];have:=HN.out;omega
     obtain⟨r1,r2,rfl⟩:∃r1 r2,rs=[r1,r2]:=by
          match rs,hl with
          |[a,b],_=>exact⟨a,b,rfl⟩
     clear hl;have c2:=HC3.out 2 (by have:=HN.out;simp only[List.length_cons,List.length_nil]at this;omega);have c3:=HC3.out 3 (by have:=HN.out;simp only[List.length_cons,List.length_nil]at this;omega);simp only[List.getD_cons_zero,List.getD_cons_succ]at c2 c3;have hn3:(2:Int)<(n:Int):=by have:=HN.out;simp only[List.length_cons,List.length_nil]at this;omega
     have hn4:(3:Int)<(n:Int):=by have:=HN.out;simp only[List.length_cons,List.length_nil]at this;omega
     have HU1:=hid (fun W=>a5H r1 W (by have:=HSZ.out r1 (by simp);omega));have HU2:=hid (fun W=>a5H r2 W (by have:=HSZ.out r2 (by simp);omega));rw[a4b]at HU1 HU2;unfold a6T at HU1 HU2
     have h9:askC driftW r0 [r1,r2]=match numV r1,numV r2 with
      |some a,some b=>some (.asked 3 [r0] [a,b])
      |_,_=>none:=by unfold askC;cases h1:numV r1<;>cases h2:numV r2<;>simp (decide:=true) [HNR.out,h1,h2]
     have HRB:Hid (R=match (match numV r1,numV r2 with
      |some a,some b=>some (.asked 3 [r0] [a,b])
      |_,_=>none:Option Cmd)with
      |some c=>askV (knR l) c
      |none=>(emp,100)):=hid (by rw[HRA.out,h9])
     clear h9;cases hv1:numV r1 with
     |none=>
      rw[hv1]at HU1 HRB;have HR2:Hid (R=(emp,100)):=hid (by rw[HRB.out]);simp only[numI,Option.getD_none,Option.isSome_none]at HU1;generalize numI (numV r2)=v2 at *;generalize (numV r2).isSome=b2 at *
      clear hv1 HRB;go_wp2_with fail
      refine(HU1.out _).mono ?_
      rintro e w5 ⟨rfl,rfl⟩;go_wp2_with fail
      refine(HU2.out _).mono ?_
      rintro e w6 ⟨rfl,rfl⟩;go_wp2;go_ret2;rw[HR2.out];exact⟨rfl,HTOP.out _ (TS.refl _ _ _)⟩
     | some a=>
      rw[hv1]at HU1 HRB;simp only[numI,Option.getD_some,Option.isSome_some]at HU1;cases hv2:numV r2 with
      |none=>
       rw[hv2]at HU2 HRB;have HR2:Hid (R=(emp,100)):=hid (by rw[HRB.out]);simp only[numI,Option.getD_none,Option.isSome_none]at HU2;clear hv1 hv2 HRB;go_wp2_with fail
       refine(HU1.out _).mono ?_
       rintro e w5 ⟨rfl,rfl⟩;go_wp2_with fail
       refine(HU2.out _).mono ?_
       rintro e w6 ⟨rfl,rfl⟩;go_wp2;go_ret2;rw[HR2.out];exact⟨rfl,HTOP.out _ (TS.refl _ _ _)⟩
      |some b=>
       rw[hv2]at HU2 HRB;have HR2:Hid (R=a0h (a0O [a,b]) [r0] (knR l)):=hid (by rw[HRB.out];rfl);simp only[numI,Option.getD_some,Option.isSome_some]at HU2;have HX:=hid (fun W (hW:SaysAt W S B l)=>rdrift_any S B l r0 a b (HTX.out r0) W hW (by have:=HLL.out;omega));generalize a0h (a0O [a,b]) [r0] (knR l)=r at *;obtain⟨ra,re⟩:=r;clear hv1 hv2 HRB;go_wp2_with fail
       refine(HU1.out _).mono ?_
       rintro e w5 ⟨rfl,rfl⟩;go_wp2_with fail
       refine(HU2.out _).mono ?_
       rintro e w6 ⟨rfl,rfl⟩;have HX2:=hid (HX.out _ HSA.out);go_wp2_with fail
       refine HX2.out.mono ?_;rintro e w5 ⟨rfl,ht⟩;have HT5:=hid ht;clear ht;go_wp2;go_ret2;rw[HR2.out];exact⟨rfl,HTOP.out _ HT5.out⟩
    have zl:((n:Int)==4)=false:=by rw[beq_eq_false_iff_ne];have:=HN.out;omega
    have HR2:Hid (R=(emp,100)):=hid (by
     have h9:askC driftW r0 rs=none:=by unfold askC;simp (decide:=true) [HNR.out,hl]
     rw[HRA.out,h9])
    clear hl;go_wp2;go_ret2;rw[HR2.out];exact⟨rfl,HTOP.out _ (TS.refl _ _ _)⟩
   have edrift:(w0.toList==([100,114,105,102,116]:List UInt8))=false:=a0u (l:=[100,114,105,102,116]) qdrift;have HQdrift:=hid qdrift;clear qdrift
   have HR2:Hid (R=(emp,100)):=hid (by
    have h9:askC w0 r0 rs=none:=by unfold askC;simp (decide:=true) [HNR.out,HQ1.out,HQtext.out,HQstock.out,HQbeat.out,HQfar.out,HQdrift.out]
    rw[HRA.out,h9])
   go_wp2;go_ret2;rw[HR2.out];exact⟨rfl,HTOP.out _ (TS.refl _ _ _)⟩
theorem ajE(x y:Ent)(W:World):(binOp .neq 43 (.agg #[.int .i64 (a04 x),.int .i64 (eNum x),.int .i64 (eCnt x),.string (a05 x)]) (.agg #[.int .i64 (a04 y),.int .i64 (eNum y),.int .i64 (eCnt y),.string (a05 y)])).run Tryz.prog W= .ok (.bool (!eqE x y)) W:=neqE.1 x y W
theorem aeT{l m:List Ent}{k:Nat}(hl:k<l.length)(hm:k<m.length)(h:l.take k=m.take k)(he:l.getD k noE=m.getD k noE):l.take (k+1)=m.take (k+1):=by
 rw[List.getD_eq_getElem?_getD,List.getElem?_eq_getElem hl,List.getD_eq_getElem?_getD,List.getElem?_eq_getElem hm]at he;rw[List.take_succ_eq_append_getElem hl,List.take_succ_eq_append_getElem hm,h];exact congrArg (fun z=>m.take k++[z]) he
theorem a5K(n:Int)(w:World):Calls Tryz.prog 46 #[.int .i64 n] w fun e w'=>e= .returned (.pointer (some ⟨w.heap.size,0,none⟩))/\
  w'=w.alloc (.cells #[.int .i64 n,.slice none 0 0,.slice none 0 0,.slice none 0 0,.slice none 0 0] 54):=by
 go_enter Tryz.func46,Tryz.ntmps46;go_wp2;go_ret;exact⟨rfl,rfl⟩
theorem aeU{i:Nat}{l:List Ent}(h:ListOk i l){k:Nat}(hk:k<l.length):a0k (l.take (k+1))=eCnt (l.getD k noE)/\(a0k (l.take k)<eCnt (l.getD k noE)):=by
 have e:l.take (k+1)=l.take k++[l[k]]:=List.take_succ_eq_append_getElem hk;have eg:l.getD k noE=l[k]:=by rw[List.getD_eq_getElem?_getD,List.getElem?_eq_getElem hk];rfl
 rw[eg];refine⟨by rw[e,a5U],?_⟩;cases k with
 |zero=>
  have:=(h.own 0 hk).2.2.1
  show (0:Int)<_;omega
 |succ j=>
  have e2:l.take (j+1)=l.take j++[l[j]]:=List.take_succ_eq_append_getElem (by omega);rw[e2,a5U];exact List.pairwise_iff_getElem.1 h.asc j (j+1) (by omega) hk (by omega)
theorem aeV(P:Nat)(n:Int)(vs:Nat->Value)(b:Book)(w:World)(h:RfAt w P n vs b)(hok:a08 b):
  Calls Tryz.prog 61 #[.pointer (some ⟨P,0,none⟩)] w fun e w'=>e= .returned (.int .i64 (cntB b))/\w=w':=by
 have H:=hid h;have HOK:=hid hok;clear h hok;go_enter Tryz.func61,Tryz.ntmps61;go_wp2;go_loopw [3,4] (fun n i wr=>∃k:Nat,k<=4/\i= .int .i64 k/\n= .int .i64 (a1E b k)/\wr=w) (fun _ i _=>4-(intOf i).toNat)
 case atStart=>exact⟨0,by omega,rfl,rfl,rfl⟩
 case round=>
  obtain⟨i,hi,rfl,rfl,rfl⟩:=hrel;by_cases hlt:i<4
  ·have hlt2:(i:Int)<4:=by omega
   have c1:=H.out.cell hlt;have HLO:=hid (HOK.out i hlt);obtain⟨a,cap,hv⟩:=(H.out.2 i hlt).shape
   have HEN:=hid (H.out.2 i hlt);rw[hv]at c1 HEN;have HS:=hid (show a1E b (i+1)=max (a1E b i) (a0k (b i))from rfl);have HPOS:=hid (a5W b i);generalize b i=l at *;generalize a1E b i=m at *;obtain⟨len,hlen⟩:∃len,len=l.length:=⟨_,rfl⟩
   have HLEN:=hid hlen;rw[<-hlen]at c1;have hl60:len<=60:=by rw[hlen];exact HLO.out.len
   clear hlen hv;obtain⟨wo,hwo⟩:∃wo,wo=wr:=⟨_,rfl⟩
   subst hwo;go_wp2;go_loopw [3,5] (fun n j wr=>∃k:Nat,k<=len/\j= .int .i64 k/\n= .int .i64 (max m (a0k (l.take k)))/\wr=wo) (fun _ j _=>len-(intOf j).toNat)
   case atStart=>exact⟨0,by omega,rfl,by rw[List.take_zero,a9s];have:=HPOS.out;congr 1;omega,rfl⟩
   case round=>
    obtain⟨k,hk,rfl,rfl,rfl⟩:=hrel;by_cases hlk:k<len
    ·have hlk2:(k:Int)<(len:Int):=by omega
     obtain⟨g,off,cap2,hv2,_,_,d3,_⟩:=HEN.out.entry (k:=k) (by rw[<-HLEN.out];exact hlk);simp only[Value.slice.injEq]at hv2;obtain⟨rfl,_,rfl⟩:=hv2;have HT:=hid (aeU HLO.out (k:=k) (by rw[<-HLEN.out];exact hlk));generalize l.getD k noE=ex at *
     have HM:Hid (max (max m (a0k (l.take k))) (eCnt ex)=max m (a0k (l.take (k+1)))):=hid (by
      have h1:=HT.out.1;have h2:=HT.out.2;rw[h1];omega)
     generalize max m (a0k (l.take k))=mm at *;go_wp2;go_roundw
     case rel=>exact⟨k+1,by omega,by go_num,by rw[HM.out],trivial⟩
     case measure=>simp[intOf];omega
    obtain rfl:k=len:=by omega
    have HTA:Hid (l.take k=l):=hid (List.take_of_length_le (by rw[<-HLEN.out];exact Nat.le_refl _));have HM:Hid (max m (a0k (l.take k))=a1E b (i+1)):=hid (by rw[HTA.out,HS.out]);generalize max m (a0k (l.take k))=mm at *;go_wp2;go_roundw
    case rel=>exact⟨i+1,by omega,by go_num,by rw[HM.out],trivial⟩
    case measure=>simp[intOf];omega
  have e:i=4:=by omega
  subst e;go_wp2;go_ret;exact⟨by rw[acO];rfl,rfl⟩
theorem aeW{l m:List Ent}:l<+:m↔l.length<=m.length/\l=m.take l.length:=by
 constructor
 ·intro h;exact⟨h.length_le,by rw[<-List.prefix_iff_eq_take];exact h⟩
 rintro⟨_,h⟩;rw[List.prefix_iff_eq_take];exact h
theorem a7i(v v2:Value)(l m:List Ent)(w:World)(h1:EntsAt w v l)(h2:EntsAt w v2 m)(hl:l.length<=1000):
  Calls Tryz.prog 58 #[v,v2] w fun e w'=>e= .returned (.bool (decide (l<+:m)))/\Below w.heap.size w w':=by
 have H1:=hid h1;have H2:=hid h2;obtain⟨a1,c1,rfl⟩:=h1.shape;obtain⟨a2,c2,rfl⟩:=h2.shape;obtain⟨n,hn⟩:∃n,n=l.length:=⟨_,rfl⟩
 obtain⟨n2,hn2⟩:∃n,n=m.length:=⟨_,rfl⟩
 have HN:=hid hn;have HN2:=hid hn2;rw[<-hn,<-hn2];rw[<-hn]at hl;clear h1 h2 hn hn2;go_enter Tryz.func58,Tryz.ntmps58;go_wp2;go_loopw [5] (fun i wr=>∃k:Nat,k<=n/\k<=n2/\i= .int .i64 k/\Hid (l.take k=m.take k)/\Hid (Below w.heap.size w wr)) (fun i _=>n-(intOf i).toNat)
 case atStart=>exact⟨0,by omega,by omega,rfl,hid (by simp),hid (Below.refl _ _)⟩
 case round=>
  obtain⟨k,hk,hk2,rfl,HT,HB⟩:=hrel;by_cases hlt:k<n
  ·have hlt2:(k:Int)<(n:Int):=by omega
   by_cases hlm:k<n2
   ·have hlm2:(k:Int)<(n2:Int):=by omega
    have hkl:k<l.length:=by rw[<-HN.out];exact hlt
    have hkm:k<m.length:=by rw[<-HN2.out];exact hlm
    obtain⟨g,o,cc,hv,p1,p2,p3,p4⟩:=(H1.out.below HB.out).entry hkl
    obtain⟨g',o',cc',hv',q1,q2,q3,q4⟩:=(H2.out.below HB.out).entry hkm
    simp only[Value.slice.injEq]at hv hv';obtain⟨rfl,_,rfl⟩:=hv;obtain⟨rfl,_,rfl⟩:=hv';have HTN:=hid (aeT hkl hkm HT.out);obtain⟨x,hx⟩:∃x:Ent,x=l.getD k noE:=⟨_,rfl⟩
    obtain⟨y,hy⟩:∃y:Ent,y=m.getD k noE:=⟨_,rfl⟩
    rw[<-hx]at p1 p2 p3 p4;rw[<-hy]at q1 q2 q3 q4;rw[<-hx,<-hy]at HTN;have HX:=hid hx;have HY:=hid hy;have hne:=ajE x y;clear hx hy;by_cases hxy:x=y
    ·have HT2:=hid (HTN.out hxy);have hb:eqE x y=true:=(a98 x y).2 hxy
     rw[hb]at hne;clear hxy hb HTN;go_wp2;go_quiet (fail)
     have HB2:=hid (a0d HB.out nq);go_wp2;go_roundw
     case rel=>exact⟨k+1,by omega,by omega,by go_num,HT2,HB2⟩
     case measure=>simp[intOf];omega
    have hb:eqE x y=false:=by rw[Bool.eq_false_iff];exact fun h=>hxy ((a98 x y).1 h)
    have HD:Hid (decide (l<+:m)=false):=hid (by
     rw[decide_eq_false];intro e;apply hxy;obtain⟨r,rfl⟩:=e;rw[HX.out,HY.out,List.getD_eq_getElem?_getD,List.getD_eq_getElem?_getD,List.getElem?_append_left hkl])
    rw[hb]at hne;clear hxy hb HTN;go_wp2;go_quiet (fail)
    have HB2:=hid (a0d HB.out nq);go_wp2;go_ret;exact⟨by rw[HD.out];rfl,HB2.out⟩
   obtain rfl:k=n2:=by omega
   have hlm2:¬(k:Int)<(k:Int):=by omega
   have hle:¬(n:Int)<=(k:Int):=by omega
   have HD:Hid (decide (l<+:m)=false):=hid (by
    rw[decide_eq_false];intro e;have:=e.length_le;rw[<-HN.out,<-HN2.out]at this;omega)
   go_wp2;go_ret;exact⟨by rw[HD.out];rfl,HB.out⟩
  obtain rfl:k=n:=by omega
  have hlt2:¬(k:Int)<(k:Int):=by omega
  have hle:(k:Int)<=(n2:Int):=by omega
  have HD:Hid (decide (l<+:m)=true):=hid (by
   rw[decide_eq_true_iff,aeW];refine⟨by rw[<-HN.out,<-HN2.out];exact hk2,?_⟩;have h9:=HT.out;rw[List.take_of_length_le (by rw[<-HN.out];exact Nat.le_refl _)]at h9;rw[<-HN.out];exact h9)
  go_wp2;go_ret;exact⟨by rw[HD.out];rfl,HB.out⟩
end Go.Proofs.YtdfkaijeppdhaaaGreatDoor
