/- Part of the proof. -/
import Derived.Test.YtdfkaijeppdhaaaGreatDoorZHs40
set_option maxRecDepth 100000
set_option maxHeartbeats 8000000
set_option linter.unusedSimpArgs false
set_option linter.unusedVariables false

namespace Go.Proofs.YtdfkaijeppdhaaaGreatDoor
open Lib (hid)
open Proofs.Tryz Go.RowKit Go.Shelf
def a7A(kn:Kn)(ws:List ByteArray):ByteArray×Int:=match a5f ws with
 |some c=>abS kn c
 |none=>(emp,100)
theorem ahT(b:a00)(line:ByteArray):a0k b line=a7A (a0e (a06 b)) (splitA 32 line):=by
 unfold a7A;rw[am4];unfold a0k ahS;cases a08 line with
 |none=>rfl
 |some c=>cases c<;>rfl
theorem am5{kn:Kn}{ws:List ByteArray}(h:ws.any (fun x=>decide (x=emp))=true):a7A kn ws=(emp,100):=by
 unfold a7A a5f;rw[if_pos h]
theorem ahU{kn:Kn}{ws:List ByteArray}(h:ws.length<2):a7A kn ws=(emp,100):=by
 unfold a7A a5f;split
 ·rename_i c hc
  split at hc
  ·cases hc
  match ws,h,hc with
  |[],_,hc=>cases hc
  |[_],_,hc=>cases hc
 rfl
theorem anr{kn:Kn}{w0 r0:ByteArray}{rs:List ByteArray}(h:(w0::r0::rs).any (fun x=>decide (x=emp))=false):a7A kn (w0::r0::rs)=match a13 w0 r0 rs with
 |some c=>abS kn c
 |none=>(emp,100):=by
 unfold a7A a5f;rw[h];rfl
theorem ahV(kn:Kn)(r0:ByteArray)(rs:List ByteArray):(match a13 shareW r0 rs with
 |some c=>abS kn c
 |none=>(emp,100))=a9X kn (r0::rs):=by
 unfold a13 a9X;rw[if_pos rfl];simp only[aoV,List.drop_succ_cons,List.drop_zero,aom];cases a0d r0 with
 |none=>rfl
 |some n=>
  simp only;by_cases h:rs.length<1\/8<rs.length
  ·rw[if_pos h,if_pos (show rs.length+1<2\/9<rs.length+1 by omega)]
  rw[if_neg h,if_neg (show¬(rs.length+1<2\/9<rs.length+1) by omega)];by_cases h2:rs.all a03=true
  ·rw[if_pos h2,if_pos h2];rfl
  rw[if_neg h2,if_neg h2]
theorem ant(l:List Rw)(n:ByteArray):a0B a3d [n] (knR l)=(a0j l n,if a0j l n=emp then 5 else 0):=by
 rw[a8L];by_cases h:a0j l n=emp
 ·rw[if_pos h,if_pos h,h]
 rw[if_neg h,if_neg h];rfl
theorem am6(P:Nat)(pn:Int)(vs:Nat->Value)(b:a00)(line:ByteArray)(hs:line.size<=1000000)(w:World)(h:RfAt w P pn vs b)(hok:a02 b):
  Calls prog 43 #[.pointer (some ⟨P,0,none⟩),.string line] w (a0J (a0k b line) w):=by
 obtain⟨ws,hws⟩:∃ws,ws=splitA 32 line:=⟨_,rfl⟩
 obtain⟨R,hR⟩:∃R,R=a0k b line:=⟨_,rfl⟩
 rw[<-hR];have HR:Hid (R=a7A (a0e (a06 b)) ws):=hid (by rw[hR,hws,ahT]);have HSP:=hid (ahQ line hs w);rw[<-hws]at HSP
 have HSZ:Hid (∀x∈ws,x.size<=1000000):=hid (fun x hx=>by
  have:=a94 (c:=32) (s:=line) (x:=x) (by rw[<-hws];exact hx);omega)
 have HLEN:Hid (ws.length<=1000001):=hid (by
  have h1:=splitA_len 32 line;rw[<-hws]at h1;have:=aq6 (a:=(32:UInt8)) (l:=line.data.toList);rw[<-a05]at this;omega)
 have HSY:=hid (fun W (hW:Below w.heap.size w W)=>ack P pn vs b W (h.below hW) hok);unfold a8k at HSY
 have HLL:Hid ((a0M (a06 b) []).length<=240):=hid (by
  have:=a2S (a06 b) [];have h2:(a06 b).length<=240:=by rw[a1j];exact a1X hok
  simp only[aow]at this;omega)
 have HTX:Hid (∀x,(a0j (a0M (a06 b) []) x).size<=1000):=hid (fun x=>by
  by_cases he:a0j (a0M (a06 b) []) x=emp
  ·rw[he];decide
  have h2:(a0e (a06 b)).txt x=some (a0j (a0M (a06 b) []) x):=by rw[<-a7a];exact a3v he
  have:=acK hok x _ h2;omega)
 have HSM:Hid (∀x, -100000000<=a0X (a0M (a06 b) []) x/\a0X (a0M (a06 b) []) x<=100000000):=hid (fun x=>a3x (a06 b) (by rw[a1j];have:=a1X hok;omega) x);rw[<-a7a]at HR;generalize a0M (a06 b) []=l at *;unfold acQ at HSP;clear h hok hs hR hws;go_enter func43,ntmps43;go_wp2_with fail
 refine HSP.out.mono ?_;rintro e w2 ⟨hsa,hsb,hb2⟩;have HB2:=hid hb2;clear hb2;cases hany:ws.any (fun x=>decide (x=emp))with
 |true=>
  obtain rfl:=hsa hany;have HR2:Hid (R=(emp,100)):=hid (by rw[HR.out,am5 hany]);clear hsa hsb hany;go_wp2;go_ret2;rw[HR2.out];exact⟨rfl,HB2.out⟩
 | false=>
  obtain⟨v,rfl,hown⟩:=hsb hany;have HANY:=hid hany;clear hsa hsb hany;by_cases hlen:ws.length<2
  ·obtain⟨a,cap,rfl⟩:=own_shape hown;have HR2:Hid (R=(emp,100)):=hid (by rw[HR.out,ahU hlen]);have hli:(ws.length:Int)<2:=om;clear hown hlen;go_wp2;go_ret2;rw[HR2.out];exact⟨rfl,HB2.out⟩
  obtain⟨g,cap,rfl,hg0,hg1⟩:=hown.form om
  have hcap:ws.length<=cap:=by
   rcases hown.2 with⟨h1,_⟩|⟨g',cap',cur,hv,_,_,h1,_⟩
   ·cases h1
   simp only[Value.slice.injEq]at hv;omega
  have hcell:∀j,j<ws.length->w2.cell? ⟨g,j,none⟩=some (.string (ws.getD j emp)):=fun j hj=>by
   rw[hown.cellAt j om,apr,aoj hj,aoh,aoj hj];rfl
  obtain⟨w0,r0,rs,rfl⟩:∃w0 r0 rs,ws=w0::r0::rs:=by
   match ws,hlen with
   |[],h=>exact absurd (show 0<2 by omega) h
   |[_],h=>exact absurd (show 1<2 by omega) h
   |a::b::r,_=>exact⟨a,b,r,rfl⟩
  have HRA:Hid (R=match a13 w0 r0 rs with
   |some c=>abS (knR l) c
   |none=>(emp,100)):=hid (HR.out.trans (anr HANY.out))
  obtain⟨n,hn⟩:∃n,n=(w0::r0::rs).length:=⟨_,rfl⟩
  rw[<-hn]at hcap hcell HLEN⊢;have hn2:n=rs.length+2:=by rw[hn];rfl
  have hli:¬(n:Int)<2:=om;have HCE:=hid hcell;have HN:=hid hn2;have hnl:n<=1000001:=HLEN.out;have HSB:=hid (HSY.out w2 HB2.out);clear hn hown hlen hcell hn2 HR HANY HSP hg0 HLEN;go_wp2_with fail
  refine HSB.out.mono ?_;rintro e w3 ⟨B,rfl,hsay,hb3⟩;have HC3:Hid (∀j,j<n->w3.cell? ⟨g,j,none⟩=some (.string ((w0::r0::rs).getD j emp))):=hid (fun j hj=>keep_cell hb3 (HCE.out j hj));obtain⟨S,hS⟩:∃S,S=w2.heap.size:=⟨_,rfl⟩
  rw[<-hS]at hsay hg1⊢;have hlow:=hsay.low
  have HTOP:Hid (∀W,TS S B w3 W->Below w.heap.size w W):=hid (fun W hW=>by
   have h1:=HB2.out.size;have h2:=hb3.size;exact(below_trans HB2.out hb3).trans ((hW.below hlow om).mono om))
  have HSA:=hid hsay;have c0:=HC3.out 0 (by have:=HN.out;omega);have c1:=HC3.out 1 (by have:=HN.out;omega);simp only[aoV,aqa]at c0 c1;clear hsay hb3 HCE HSB HSY HB2 hS;by_cases q1:w0=shareW
  ·subst q1;have HR2:Hid (R=a9X (knR l) (r0::rs)):=hid (HRA.out.trans (ahV _ _ _));have e1:(shareW.toList==([115,104,97,114,101]:List UInt8))=true:=ot
   have HSH:=hid (rshare_any S B g 1 (cap-1) (n-1) l (r0::rs) w3 HSA.out (by have:=HLL.out;omega) (by have:=HN.out;simp only[aom];omega) om (fun j hj=>by
    have h1:=HC3.out (j+1) (by have:=HN.out;simp only[aom]at hj;omega);rw[Nat.add_comm];exact h1) hg1 (fun x hx=>HSZ.out x (List.mem_cons_of_mem _ hx)))
   have hn1:1<=n:=om;generalize a9X (knR l) (r0::rs)=r at *;obtain⟨ra,re⟩:=r;clear HRA HSZ HLL HTX HSM HC3;go_wp2_with fail
   refine HSH.out.mono ?_;rintro e w5 ⟨rfl,ht⟩;have HT5:=hid ht;clear ht;go_wp2;go_ret2;rw[HR2.out];exact⟨rfl,HTOP.out _ HT5.out⟩
  have e1:(w0.toList==([115,104,97,114,101]:List UInt8))=false:=a0W (l:=[115,104,97,114,101]) q1;have HNM:=hid (fun W=>a1e r0 W (by have:=HSZ.out r0 oz;omega));have HQ1:=hid q1;cases hnm:a03 r0 with
  |false=>
   have HR2:Hid (R=(emp,100)):=hid (by rw[HRA.out];unfold a13;rw[if_neg q1,hnm];rfl);rw[hnm]at HNM;clear q1 hnm;go_wp2_with fail
   refine(HNM.out _).mono ?_
   rintro e w4 ⟨rfl,rfl⟩;go_wp2;go_ret2;rw[HR2.out];exact⟨rfl,HTOP.out _ (TS.refl _ _ _)⟩
  | true=>
   rw[hnm]at HNM;have HNR:=hid hnm;clear q1 hnm;go_wp2_with fail
   refine(HNM.out _).mono ?_
   rintro e w4 ⟨rfl,rfl⟩;by_cases qtext:w0=textW
   ·subst qtext;have etext:(textW.toList==([116,101,120,116]:List UInt8))=true:=ot;have estock:(textW.toList==([115,116,111,99,107]:List UInt8))=false:=ot;have ebeat:(textW.toList==([98,101,97,116]:List UInt8))=false:=ot;have efar:(textW.toList==([102,97,114]:List UInt8))=false:=ot;have edrift:(textW.toList==([100,114,105,102,116]:List UInt8))=false:=ot;by_cases hl:rs.length=0
    ·have zl:((n:Int)==2)=true:=by rw[beq_iff_eq];have:=HN.out;omega
     obtain rfl:rs=[]:=aoz.1 hl;clear hl;have h9:a13 textW r0 []=some (.asked 0 [r0] []):=by unfold a13;simp (decide:=true) [HNR.out]
     have HR2:Hid (R=(a0j l r0,if a0j l r0=emp then 5 else 0)):=hid (by rw[HRA.out,h9];exact ant l r0);have HX:=hid (a7z S B l r0 w3 HSA.out (by have:=HLL.out;omega));unfold a6L at HX;generalize (if a0j l r0=emp then (5:Int)else 0)=er at *;generalize a0j l r0=x at *;clear h9;go_wp2_with fail
     refine HX.out.mono ?_;rintro e w5 ⟨rfl,_,ht⟩;have HT5:=hid ht;clear ht;go_wp2;go_ret2;rw[HR2.out];exact⟨rfl,HTOP.out _ HT5.out⟩
    have zl:((n:Int)==2)=false:=by rw[beq_eq_false_iff_ne];have:=HN.out;omega
    have HR2:Hid (R=(emp,100)):=hid (by
     have h9:a13 textW r0 rs=none:=by unfold a13;simp (decide:=true) [HNR.out,hl]
     rw[HRA.out,h9])
    clear hl;go_wp2;go_ret2;rw[HR2.out];exact⟨rfl,HTOP.out _ (TS.refl _ _ _)⟩
   have etext:(w0.toList==([116,101,120,116]:List UInt8))=false:=a0W (l:=[116,101,120,116]) qtext;have HQtext:=hid qtext;clear qtext;by_cases qstock:w0=stockW
   ·subst qstock;have etext:(stockW.toList==([116,101,120,116]:List UInt8))=false:=ot;have estock:(stockW.toList==([115,116,111,99,107]:List UInt8))=true:=ot;have ebeat:(stockW.toList==([98,101,97,116]:List UInt8))=false:=ot;have efar:(stockW.toList==([102,97,114]:List UInt8))=false:=ot;have edrift:(stockW.toList==([100,114,105,102,116]:List UInt8))=false:=ot;by_cases hl:rs.length=0
    ·have zl:((n:Int)==2)=true:=by rw[beq_iff_eq];have:=HN.out;omega
     obtain rfl:rs=[]:=aoz.1 hl;clear hl;have h9:a13 stockW r0 []=some (.stock r0):=by unfold a13;simp (decide:=true) [HNR.out]
     have HR2:Hid (R=(itoaB (a0X l r0),0)):=hid (by rw[HRA.out,h9];rfl);have HAT:=hid (a4F S B l r0 w3 HSA.out (by have:=HLL.out;omega));have HSK:=hid (a4E l r0 r0);have HD:=hid (fun W=>a2m (a0X l r0) W (by have:=HSM.out r0;omega) (by have:=HSM.out r0;omega));clear h9;go_wp2_with fail
     refine HAT.out.mono ?_;rintro e w4 ⟨g2,c2,g3,c3,len,u,rfl,hna,hts⟩;have k2:=hna.says.cell.2.2.1;have k3:=hna.sum;rw[HSK.out]at k3;have hil:(a0g r0 l:Int)<(len:Int):=by have:=hna.lt;omega
     have hiz:(0:Int)<=(a0g r0 l:Int):=om;have HT4:=hid hts;clear hna hts;generalize a0g r0 l=i at *;generalize a0X l r0=sm at *;go_wp2_with fail
     refine(HD.out _).mono ?_
     rintro e w5 ⟨rfl,hb5⟩;have HT5:=hid (HT4.out.trans (TS.of_below hb5));clear hb5;go_wp2;go_ret2;rw[HR2.out];exact⟨rfl,HTOP.out _ HT5.out⟩
    have zl:((n:Int)==2)=false:=by rw[beq_eq_false_iff_ne];have:=HN.out;omega
    have HR2:Hid (R=(emp,100)):=hid (by
     have h9:a13 stockW r0 rs=none:=by unfold a13;simp (decide:=true) [HNR.out,hl]
     rw[HRA.out,h9])
    clear hl;go_wp2;go_ret2;rw[HR2.out];exact⟨rfl,HTOP.out _ (TS.refl _ _ _)⟩
   have estock:(w0.toList==([115,116,111,99,107]:List UInt8))=false:=a0W (l:=[115,116,111,99,107]) qstock;have HQstock:=hid qstock;clear qstock;by_cases qbeat:w0=beatW
   ·subst qbeat;have etext:(beatW.toList==([116,101,120,116]:List UInt8))=false:=ot;have estock:(beatW.toList==([115,116,111,99,107]:List UInt8))=false:=ot;have ebeat:(beatW.toList==([98,101,97,116]:List UInt8))=true:=ot;have efar:(beatW.toList==([102,97,114]:List UInt8))=false:=ot;have edrift:(beatW.toList==([100,114,105,102,116]:List UInt8))=false:=ot;by_cases hl:rs.length=0
    ·have zl:((n:Int)==2)=true:=by rw[beq_iff_eq];have:=HN.out;omega
     obtain rfl:rs=[]:=aoz.1 hl;clear hl;have h9:a13 beatW r0 []=some (.asked 1 [r0] []):=by unfold a13;simp (decide:=true) [HNR.out]
     have HR2:Hid (R=a0B a1L [r0] (knR l)):=hid (by rw[HRA.out,h9];rfl);have HX:=hid (rbeat_any S B l r0 (HTX.out r0) w3 HSA.out (by have:=HLL.out;omega));generalize a0B a1L [r0] (knR l)=r at *;obtain⟨ra,re⟩:=r;clear h9;go_wp2_with fail
     refine HX.out.mono ?_;rintro e w5 ⟨rfl,ht⟩;have HT5:=hid ht;clear ht;go_wp2;go_ret2;rw[HR2.out];exact⟨rfl,HTOP.out _ HT5.out⟩
    have zl:((n:Int)==2)=false:=by rw[beq_eq_false_iff_ne];have:=HN.out;omega
    have HR2:Hid (R=(emp,100)):=hid (by
     have h9:a13 beatW r0 rs=none:=by unfold a13;simp (decide:=true) [HNR.out,hl]
     rw[HRA.out,h9])
    clear hl;go_wp2;go_ret2;rw[HR2.out];exact⟨rfl,HTOP.out _ (TS.refl _ _ _)⟩
   have ebeat:(w0.toList==([98,101,97,116]:List UInt8))=false:=a0W (l:=[98,101,97,116]) qbeat;have HQbeat:=hid qbeat;clear qbeat;by_cases qfar:w0=farW
   ·subst qfar;have etext:(farW.toList==([116,101,120,116]:List UInt8))=false:=ot;have estock:(farW.toList==([115,116,111,99,107]:List UInt8))=false:=ot;have ebeat:(farW.toList==([98,101,97,116]:List UInt8))=false:=ot;have efar:(farW.toList==([102,97,114]:List UInt8))=true:=ot;have edrift:(farW.toList==([100,114,105,102,116]:List UInt8))=false:=ot;by_cases hl:rs.length=1
    ·have zl:((n:Int)==3)=true:=by rw[beq_iff_eq];have:=HN.out;omega
     obtain⟨r1,rfl⟩:∃r1,rs=[r1]:=List.length_eq_one_iff.1 hl;clear hl;have c2:=HC3.out 2 (by have:=HN.out;simp only[aom,aow]at this;omega);simp only[aoV,aqa]at c2;have hn3:(2:Int)<(n:Int):=by have:=HN.out;simp only[aom,aow]at this;omega
     have hn0:(1:Int)<(n:Int):=om;have HNM2:=hid (fun W=>a1e r1 W (by have:=HSZ.out r1 oz;omega));cases hnm2:a03 r1 with
     | false=>
      have HR2:Hid (R=(emp,100)):=hid (by
       have h9:a13 farW r0 [r1]=none:=by unfold a13;simp (decide:=true) [HNR.out,hnm2]
       rw[HRA.out,h9])
      rw[hnm2]at HNM2;clear hnm2;go_wp2_with fail
      refine(HNM2.out _).mono ?_
      rintro e w5 ⟨rfl,rfl⟩;go_wp2;go_ret2;rw[HR2.out];exact⟨rfl,HTOP.out _ (TS.refl _ _ _)⟩
     | true=>
      have HR2:Hid (R=a0B a3D [r0,r1] (knR l)):=hid (by
       have h9:a13 farW r0 [r1]=some (.asked 2 [r0,r1] []):=by unfold a13;simp (decide:=true) [HNR.out,hnm2]
       rw[HRA.out,h9];rfl)
      have HX:=hid (fun W (hW:SaysAt W S B l)=>alY S B l r0 r1 (HTX.out r0) (HTX.out r1) W hW (by have:=HLL.out;omega));rw[hnm2]at HNM2;generalize a0B a3D [r0,r1] (knR l)=r at *;obtain⟨ra,re⟩:=r;clear hnm2;go_wp2_with fail
      refine(HNM2.out _).mono ?_
      rintro e w5 ⟨rfl,rfl⟩;have y1:∀W,TS S B w3 W->W.cell? ⟨g,1,none⟩=some (.string r0):=fun W hW=>hW.cell hg1 hlow c1;have y2:∀W,TS S B w3 W->W.cell? ⟨g,2,none⟩=some (.string r1):=fun W hW=>hW.cell hg1 hlow c2;have HDR:Hid (TS S B w3 w3.drew):=hid (TS.of_below (aoi _ _).drew);have HX2:=hid (HX.out w3.drew (HSA.out.below (aoi _ _).drew));clear c0 c1 c2;go_wp2;have hHeld:=HDR.out;refine wp_region_held_drew (S:=TS S B w3) ot hHeld (fun hHeld=>?_);refine tk [0,1,2,3,4,5,6] ?_;repeat (refine tkC hHeld (h:=?_);apply exq;(· intro W3 hS3;go_simp;try rfl);try simp only[gS])
      with_reducible refine tkE ?_
      refine wpAnyH_ready (rs:=[7]) ot oz ?_;refine(AllReadyH.cons rfl (fun K hK=>?_) AllReadyH.nil);go_simp;refine HX2.out.mono ?_;rintro e w6 ⟨rfl,ht6⟩;have hk2:=HDR.out.trans ht6;dsimp only;refine hK.out _ _ hk2 (fun hHeld=>?_);have HT6:=hid hk2;clear hK K hk2 ht6;try simp only[Act.put,aoF,aoU,aoN]
      refine tk [8,9,10,11] ?_;repeat (refine tkC hHeld (h:=?_);apply exq;(· intro W3 hS3;go_simp;try rfl);try simp only[gS])
      with_reducible refine tkE ?_
      refine wpAnyH_done ot ?_ _;try simp only[Exit.then]
      go_wp2;go_ret2;rw[HR2.out];exact⟨rfl,HTOP.out _ HT6.out⟩
    have zl:((n:Int)==3)=false:=by rw[beq_eq_false_iff_ne];have:=HN.out;omega
    have HR2:Hid (R=(emp,100)):=hid (by
     have h9:a13 farW r0 rs=none:=by unfold a13;simp (decide:=true) [HNR.out,hl]
     rw[HRA.out,h9])
    clear hl;go_wp2;go_ret2;rw[HR2.out];exact⟨rfl,HTOP.out _ (TS.refl _ _ _)⟩
   have efar:(w0.toList==([102,97,114]:List UInt8))=false:=a0W (l:=[102,97,114]) qfar;have HQfar:=hid qfar;clear qfar;by_cases qdrift:w0=driftW
   ·subst qdrift;have etext:(driftW.toList==([116,101,120,116]:List UInt8))=false:=ot;have estock:(driftW.toList==([115,116,111,99,107]:List UInt8))=false:=ot;have ebeat:(driftW.toList==([98,101,97,116]:List UInt8))=false:=ot;have efar:(driftW.toList==([102,97,114]:List UInt8))=false:=ot;have edrift:(driftW.toList==([100,114,105,102,116]:List UInt8))=true:=ot;by_cases hl:rs.length=2
    ·have zl:((n:Int)==4)=true:=by rw[beq_iff_eq];have:=HN.out;omega
     obtain⟨r1,r2,rfl⟩:∃r1 r2,rs=[r1,r2]:=by
          match rs,hl with
          |[a,b],_=>exact⟨a,b,rfl⟩
     clear hl;have c2:=HC3.out 2 (by have:=HN.out;simp only[aom,aow]at this;omega);have c3:=HC3.out 3 (by have:=HN.out;simp only[aom,aow]at this;omega);simp only[aoV,aqa]at c2 c3;have hn3:(2:Int)<(n:Int):=by have:=HN.out;simp only[aom,aow]at this;omega
     have hn4:(3:Int)<(n:Int):=by have:=HN.out;simp only[aom,aow]at this;omega
     have HU1:=hid (fun W=>a7c r1 W (by have:=HSZ.out r1 oz;omega));have HU2:=hid (fun W=>a7c r2 W (by have:=HSZ.out r2 oz;omega));rw[a6V]at HU1 HU2;unfold a8U at HU1 HU2
     have h9:a13 driftW r0 [r1,r2]=match a0d r1,a0d r2 with
      |some a,some b=>some (.asked 3 [r0] [a,b])
      |_,_=>none:=by unfold a13;cases h1:a0d r1<;>cases h2:a0d r2<;>simp (decide:=true) [HNR.out,h1,h2]
     have HRB:Hid (R=match (match a0d r1,a0d r2 with
      |some a,some b=>some (.asked 3 [r0] [a,b])
      |_,_=>none:Option Cmd)with
      |some c=>abS (knR l) c
      |none=>(emp,100)):=hid (by rw[HRA.out,h9])
     clear h9;cases hv1:a0d r1 with
     |none=>
      rw[hv1]at HU1 HRB;have HR2:Hid (R=(emp,100)):=hid (by rw[HRB.out]);simp only[a8i,Option.getD_none,apU]at HU1;generalize a8i (a0d r2)=v2 at *;generalize (a0d r2).isSome=b2 at *
      clear hv1 HRB;go_wp2_with fail
      refine(HU1.out _).mono ?_
      rintro e w5 ⟨rfl,rfl⟩;go_wp2_with fail
      refine(HU2.out _).mono ?_
      rintro e w6 ⟨rfl,rfl⟩;go_wp2;go_ret2;rw[HR2.out];exact⟨rfl,HTOP.out _ (TS.refl _ _ _)⟩
     | some a=>
      rw[hv1]at HU1 HRB;simp only[a8i,aoW,apV]at HU1;cases hv2:a0d r2 with
      |none=>
       rw[hv2]at HU2 HRB;have HR2:Hid (R=(emp,100)):=hid (by rw[HRB.out]);simp only[a8i,Option.getD_none,apU]at HU2;clear hv1 hv2 HRB;go_wp2_with fail
       refine(HU1.out _).mono ?_
       rintro e w5 ⟨rfl,rfl⟩;go_wp2_with fail
       refine(HU2.out _).mono ?_
       rintro e w6 ⟨rfl,rfl⟩;go_wp2;go_ret2;rw[HR2.out];exact⟨rfl,HTOP.out _ (TS.refl _ _ _)⟩
      |some b=>
       rw[hv2]at HU2 HRB;have HR2:Hid (R=a0B (a1u [a,b]) [r0] (knR l)):=hid (by rw[HRB.out];rfl);simp only[a8i,aoW,apV]at HU2;have HX:=hid (fun W (hW:SaysAt W S B l)=>rdrift_any S B l r0 a b (HTX.out r0) W hW (by have:=HLL.out;omega));generalize a0B (a1u [a,b]) [r0] (knR l)=r at *;obtain⟨ra,re⟩:=r;clear hv1 hv2 HRB;go_wp2_with fail
       refine(HU1.out _).mono ?_
       rintro e w5 ⟨rfl,rfl⟩;go_wp2_with fail
       refine(HU2.out _).mono ?_
       rintro e w6 ⟨rfl,rfl⟩;have HX2:=hid (HX.out _ HSA.out);go_wp2_with fail
       refine HX2.out.mono ?_;rintro e w5 ⟨rfl,ht⟩;have HT5:=hid ht;clear ht;go_wp2;go_ret2;rw[HR2.out];exact⟨rfl,HTOP.out _ HT5.out⟩
    have zl:((n:Int)==4)=false:=by rw[beq_eq_false_iff_ne];have:=HN.out;omega
    have HR2:Hid (R=(emp,100)):=hid (by
     have h9:a13 driftW r0 rs=none:=by unfold a13;simp (decide:=true) [HNR.out,hl]
     rw[HRA.out,h9])
    clear hl;go_wp2;go_ret2;rw[HR2.out];exact⟨rfl,HTOP.out _ (TS.refl _ _ _)⟩
   have edrift:(w0.toList==([100,114,105,102,116]:List UInt8))=false:=a0W (l:=[100,114,105,102,116]) qdrift;have HQdrift:=hid qdrift;clear qdrift
   have HR2:Hid (R=(emp,100)):=hid (by
    have h9:a13 w0 r0 rs=none:=by unfold a13;simp (decide:=true) [HNR.out,HQ1.out,HQtext.out,HQstock.out,HQbeat.out,HQfar.out,HQdrift.out]
    rw[HRA.out,h9])
   go_wp2;go_ret2;rw[HR2.out];exact⟨rfl,HTOP.out _ (TS.refl _ _ _)⟩
theorem aeL{w:World}{P:Nat}{n:Int}{vs:Nat->Value}{b:a00}{v:Value}{l:List Ent}(h:RfAt w P n vs b)(hE:EntsAt w v l)(h0:0<l.length):v.ownBlock≠some P:=by
 obtain⟨g,off,cap,rfl,p1,p2,p3,p4⟩:=hE.entry h0;intro e;have e2:g=P:=by simpa [Value.ownBlock]using e
 subst e2;have hs:=fun i (hi:i<4)=>(h.2 i hi).shape
 have h5:(#[.int .i64 n,vs 0,vs 1,vs 2,vs 3]:Array Value)[off+1]? =some (.int .i64 (a0r (l.getD 0 noE))):=by
  have h6:=p2;simp only[World.cell?,h.1]at h6;simpa using h6
 obtain⟨a0,c0,q0⟩:=hs 0 om;obtain⟨a1,c1,q1⟩:=hs 1 om;obtain⟨a2,c2,q2⟩:=hs 2 om;obtain⟨a3,c3,q3⟩:=hs 3 om;rw[q0,q1,q2,q3]at h5;rcases (show off=0\/off=1\/off=2\/off=3\/4<=off by omega)with rfl|rfl|rfl|rfl|h9
 ·simp at h5
 ·simp at h5
 ·simp at h5
 ·simp at h5
 rw[apz km]at h5;cases h5
theorem a8M(b c:a00):(a0L b c).1=0\/(a0L b c).1=102:=by
 unfold a0L;split<;>simp
end Go.Proofs.YtdfkaijeppdhaaaGreatDoor
namespace Go.Proofs.YtdfkaijeppdhaaaGreatDoor
open Lib (hid)
open Proofs.Tryz Go.RowKit Go.Shelf
attribute [local go_sem] Oper.semAt_some
def a2J:List UInt8->List (List UInt8)
 |[]=>[]
 |b::r=>if b==10 then [b]::a2J r else match a2J r with
  |[]=>[[b]]
  |x::xs=>(b::x)::xs
theorem aeM:∀l:List UInt8,l≠[]->(Lib.indexByte l 10= -1/\a2J l=[l])\/(∃i:Nat,Lib.indexByte l 10=i/\i<l.length/\a2J l=l.take (i+1)::a2J (l.drop (i+1)))
 |[],h=>absurd rfl h
 | b::r,_=>by
  by_cases h:b=10
  ·subst h;exact .inr ⟨0,by simp[Lib.indexByte],by simp,by simp[a2J]⟩
  have hb:(b==10)=false:=by simpa using h
  have hc:a2J (b::r)=match a2J r with|[]=>[[b]]|x::xs=>(b::x)::xs:=by simp[a2J,hb]
  by_cases hr:r=[]
  ·subst hr;exact .inl ⟨by simp[Lib.indexByte,hb],by simp[a2J,hb]⟩
  rcases aeM r hr with⟨h1,h2⟩|⟨i,h1,h2,h3⟩
  ·exact .inl ⟨by simp[Lib.indexByte,hb,h1],by rw[hc,h2]⟩
  refine .inr ⟨i+1,?_,by simp[h2],?_⟩
  ·unfold Lib.indexByte;rw[hb,h1];have:((i:Int)== -1)=false:=by simp
   simp[this]
  rw[hc,h3];simp
def a36(x:List UInt8):List UInt8:=Lib.trimSuffix x [10]
theorem a7B(x:List UInt8):a36 (x++[10])=x:=by unfold a36 Lib.trimSuffix Lib.hasSuffix;simp
theorem abV:∀(l x:List UInt8),x∈a2J l->x≠[]
 |[],x,h=>by simp[a2J]at h
 | b::r,x,h=>by
  unfold a2J at h;split at h
  ·rcases aov.1 h with rfl|h
   ·simp
   exact abV r x h
  split at h
  ·simp at h;subst h;simp
  rename_i y ys he
  rcases aov.1 h with rfl|h
  ·simp
  exact abV r x (by rw[he];simp[h])
theorem a7C(z:List UInt8)(c:UInt8)(h:¬c=10):a36 (z++[c])=z++[c]:=by
 unfold a36 Lib.trimSuffix Lib.hasSuffix;have h2:¬(10:UInt8)=c:=fun e=>h e.symm;simp[h,h2]
theorem ahW(b:UInt8)(x:List UInt8)(hx:x≠[]):a36 (b::x)=b::a36 x:=by
 obtain⟨y,c,rfl⟩:∃y c,x=y++[c]:=⟨x.dropLast,x.getLast hx,(List.dropLast_concat_getLast hx).symm⟩
 by_cases h:c=10
 ·subst h;rw[a7B,<-aoA,a7B]
 rw[a7C _ _ h,<-aoA,a7C _ _ h]
theorem abj:∀l:List UInt8,(a2J l).map a36=a1S l
 |[]=>rfl
 | b::r=>by
  have ih:=abj r;by_cases h:(b==10)=true
  ·have hb:b=10:=by simpa using h
   subst hb;simp only[a2J,a1S,h,if_true,aoJ,ih];rw[show a36 [10]=[]from a7B []]
  have hb:(b==10)=false:=by simpa using h
  have hb2:¬b=10:=by simpa using h
  simp only[a2J,a1S,hb,Bool.false_eq_true,if_false];cases hr:a2J r with
  |nil=>
   rw[hr]at ih;rw[<-ih];have:a36 [b]=[b]:=a7C [] b hb2;simp[this]
  |cons x xs=>
   rw[hr]at ih;have hx:x≠[]:=abV r x (by rw[hr];simp);rw[<-ih];simp only[aoJ,ahW b x hx]
def a1W(s:ByteArray):List ByteArray:=(a2J s.data.toList).map bsB
theorem ahX(s:ByteArray)(h:0<s.size):(Lib.indexByte s.data.toList 10= -1/\a1W s=[s])\/
  (∃i:Nat,Lib.indexByte s.data.toList 10=i/\i<s.size/\a1W s=s.extract 0 (i+1)::a1W (s.extract (i+1) s.size)):=by
 rcases aeM s.data.toList (by intro e;have h9:=a05 s;rw[e]at h9;have h8:s.size=0:=h9;omega)with⟨h1,h2⟩|⟨i,h1,h2,h3⟩
 ·refine .inl ⟨h1,?_⟩
  unfold a1W;rw[h2];simp[a3O]
 refine .inr ⟨i,h1,by rw[a05];exact h2,?_⟩
 unfold a1W;rw[h3,ba_take,ba_drop];simp[bsB]
theorem abk{s:ByteArray}(h:s.size=0):a1W s=[]:=by
 have:s.data.toList=[]:=aoz.1 (by rw[<-a05];exact h);unfold a1W;rw[this];rfl
def LnAt(bs:Nat)(s:ByteArray)(X:World):Prop:=X.heap[bs]? =some (.cells #[.string s] 9 (0,0))
def lnS(bs:Nat)(k:Nat):Prop:=k=bs
theorem LnAt.set{bs:Nat}{s:ByteArray}{X:World}(h:LnAt bs s X)(t:ByteArray):LnAt bs t (X.setCell ⟨bs,0,none⟩ (.string t)):=by
 obtain⟨hlt,hk⟩:=aog.1 h;show (X.heap.modify bs _)[bs]? =_;rw[aoD (by rw[apm];exact hlt),ap0,hk];simp
def aeN(bs:Nat)(X:World):Nat:=match X.heap[bs]? with
 |some (Obj.cells A _ _)=>match A[0]? with
  |some (Value.string s)=>s.size
  |_=>0
 |_=>0
theorem a6h{bs:Nat}{s:ByteArray}{X:World}(h:LnAt bs s X):aeN bs X=s.size:=by
 unfold aeN;rw[h];rfl
theorem pre_snoc{α:Type}(p:List α)(x:α)(r:List α):p++[x]<+:p++x::r:=⟨r,by simp⟩
theorem akh(n:Nat)(hn:1<=n)(bs:Nat)(s:ByteArray)(hs:s.size<=9223372036854775806):
  SeqOwn Fence.wide n prog 125 #[.pointer (some ⟨bs,0,none⟩)] Value.string (lnS bs) (lnS bs) (LnAt bs s) (a1W s):=by
 intro l J Jx W hJ hY hSt h0;obtain⟨xs,hxs⟩:∃xs,xs=a1W s:=⟨_,rfl⟩
 rw[<-hxs]at hY⊢;refine callsIn_of_wp func125 rfl trivial ?_ rfl;simp only[ntmps125,ape,aom,aow,Nat.reduceAdd,Nat.reduceSub,ap3,ap4,apf,ap7,aoM,aoA];have HST:=hid hSt;have H0:=hid h0;have HXS:=hid hxs;have HY:=hid hY;have HJ:=hid hJ;clear hSt h0 hxs hY hJ;gi_wp2;gi_loopw [3,4] (fun i f wr=>∃(pre:List ByteArray) (r:ByteArray),r.size<=s.size/\Hid (xs=pre++a1W r)/\Hid (J pre wr)/\Hid (LnAt bs r wr)) (fun _ _ wr=>aeN bs wr)
 case atStart=>exact⟨[],s,aof _,HXS,H0,HST⟩
 case round=>
  obtain⟨pre,r,hr,hx,hj,hst⟩:=hrel;have d2:wr.cell? ⟨bs,0,none⟩=some (.string r):=heap_cell hst.out rfl;have d4:wr.frozen? ⟨bs,0,none⟩=false:=by have h9:=hst.out;unfold LnAt at h9;simp[World.frozen?,h9]
  by_cases hz:r.size=0
  ·have hlt0:¬(0:Int)<(r.size:Int):=om;have HE:Hid (xs=pre):=hid (by rw[hx.out,abk hz,apj]);gi_wp2;go_end0
   exact⟨⟨_,rfl⟩,.inl (by rw[HE.out];exact hj.out)⟩
  have hlt0:(0:Int)<(r.size:Int):=om;rcases ahX r om with⟨hi,he⟩|⟨i,hi,hlt,he⟩
  ·gi_wp2_with fail
   refine⟨trivial,callsIn_wide.2 ((Tryz.strings_IndexByte r 10 wr).mono ?_)⟩;rintro e w' ⟨rfl,rfl⟩;rw[show (Int.toNat 10).toUInt8=(10:UInt8)from rfl,hi];have HJ2:=hid (HJ.out _ _ (w'.setCell ⟨bs,0,none⟩ (.string ⟨#[]⟩)) (a2i _ _ _ _ rfl) hj.out);obtain⟨fn,tmps,assign,body,hy,hR⟩:=HY.out pre r (w'.setCell ⟨bs,0,none⟩ (.string ⟨#[]⟩)) (by rw[hx.out,he];exact apH _) HJ2.out;gi_wp2;refine hR.mono ?_;rintro e W3 (⟨rfl,hJ3,hk3⟩|⟨rfl,hJx3⟩)
   ·have hst3:LnAt bs ⟨#[]⟩ W3:=(hk3 _ rfl).trans (hst.out.set ⟨#[]⟩)
    have d2:W3.cell? ⟨bs,0,none⟩=some (.string ⟨#[]⟩):=heap_cell hst3 rfl;gi_wp2;go_roundw
    case rel=>exact⟨pre++[r],⟨#[]⟩,aot _,hid (by rw[hx.out,he,abk oy];simp),hid hJ3,hid hst3⟩
    case measure=>rw[a6h hst3,a6h hst.out];show 0<_;omega
   gi_wp2;refine bodyPost_ret (results_none rfl _ _ _) rfl ?_;exact⟨⟨_,rfl⟩,.inr ⟨_,by rw[hx.out,he];exact apH _,hJx3⟩⟩
  gi_wp2_with fail
  refine⟨trivial,callsIn_wide.2 ((Tryz.strings_IndexByte r 10 wr).mono ?_)⟩;rintro e w' ⟨rfl,rfl⟩;rw[show (Int.toNat 10).toUInt8=(10:UInt8)from rfl,hi];have HJ2:=hid (HJ.out _ _ ((w'.setCell ⟨bs,0,none⟩ (.string (r.extract (i+1) r.size))).drew) ((a2i (S:=lnS bs) _ _ _ _ rfl).trans (afu _)) hj.out);obtain⟨fn,tmps,assign,body,hy,hR⟩:=HY.out pre (r.extract 0 (i+1)) ((w'.setCell ⟨bs,0,none⟩ (.string (r.extract (i+1) r.size))).drew) (by rw[hx.out,he];exact pre_snoc _ _ _) HJ2.out;gi_wp2;gi_region
  gi_wp2;refine hR.mono ?_;rintro e W3 (⟨rfl,hJ3,hk3⟩|⟨rfl,hJx3⟩)
  ·have hst3:LnAt bs (r.extract (i+1) r.size) W3:=(hk3 _ rfl).trans (LnAt.set hst.out _)
   have d2:W3.cell? ⟨bs,0,none⟩=some (.string (r.extract (i+1) r.size)):=heap_cell hst3 rfl;gi_wp2;go_roundw
   case rel=>exact⟨pre++[r.extract 0 (i+1)],r.extract (i+1) r.size,by simp;omega,hid (by rw[hx.out,he];simp),hid hJ3,hid hst3⟩
   case measure=>rw[a6h hst3,a6h hst.out];simp;omega
  gi_wp2;refine bodyPost_ret (results_none rfl _ _ _) rfl ?_;exact⟨⟨_,rfl⟩,.inr ⟨_,by rw[hx.out,he];exact pre_snoc _ _ _,hJx3⟩⟩
theorem aki(s:ByteArray)(w:World):
  Calls prog 98 #[.string s] w fun e w'=>e= .returned (.func (.func 125) #[] #[.pointer (some ⟨w.heap.size,0,none⟩)])/\
   w'=w.alloc (.cells #[.string s] 9):=by
 go_enter func98,ntmps98;go_wp2;go_ret;exact⟨rfl,rfl⟩
theorem am7(s:ByteArray)(w:World):LnAt w.heap.size s (w.alloc (.cells #[.string s] 9)):=World.alloc_heap_new w _
theorem LnAt.below{bs:Nat}{s:ByteArray}{X X':World}(h:LnAt bs s X)(hb:Below X.heap.size X X'):LnAt bs s X':=
 (hb.block _ (aog.1 h).1).trans h
end Go.Proofs.YtdfkaijeppdhaaaGreatDoor
