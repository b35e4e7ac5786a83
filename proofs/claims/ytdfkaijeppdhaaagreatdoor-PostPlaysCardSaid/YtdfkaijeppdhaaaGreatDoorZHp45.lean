/- Texts of this claim, laid together: Uh, Ui, Fp. -/
import Derived.Test.YtdfkaijeppdhaaaGreatDoorZHp37
import Derived.Test.YtdfkaijeppdhaaaGreatDoorZHp43
import Derived.Test.YtdfkaijeppdhaaaGreatDoorZHp44
import Derived.Test.YtdfkaijeppdhaaaGreatDoorZHp27

set_option maxRecDepth 100000
set_option maxHeartbeats 8000000
set_option linter.unusedSimpArgs false
set_option linter.unusedVariables false

namespace Go.Proofs.YtdfkaijeppdhaaaGreatDoor
open Go.RowKit Go.Shelf
open Lib (hid)
theorem a5N{w:World}{P:Nat}{n:Int}{vs:Nat->Value}{b:Book}{v:Value}{l:List Ent}(h:RfAt w P n vs b)(hE:EntsAt w v l)(h0:0<l.length):v.ownBlock≠some P:=by
 obtain⟨g,off,cap,rfl,p1,p2,p3,p4⟩:=hE.entry h0;intro e;have e2:g=P:=by simpa [Value.ownBlock]using e
 subst e2;have hs:=fun i (hi:i<4)=>(h.2 i hi).shape
 have h5:(#[.int .i64 n,vs 0,vs 1,vs 2,vs 3]:Array Value)[off+1]? =some (.int .i64 (eNum (l.getD 0 noE))):=by
  have h6:=p2;simp only[World.cell?,h.1]at h6;simpa using h6
 obtain⟨a0,c0,q0⟩:=hs 0 (by omega);obtain⟨a1,c1,q1⟩:=hs 1 (by omega);obtain⟨a2,c2,q2⟩:=hs 2 (by omega);obtain⟨a3,c3,q3⟩:=hs 3 (by omega);rw[q0,q1,q2,q3]at h5;rcases (show off=0\/off=1\/off=2\/off=3\/4<=off by omega)with rfl|rfl|rfl|rfl|h9
 ·simp at h5
 ·simp at h5
 ·simp at h5
 ·simp at h5
 rw[Array.getElem?_eq_none (by simp;omega)]at h5;cases h5
structure RpP(K:Nat->Prop)(w:World)(Sb:Nat)(P:Nat->Nat)(bs:Nat->Book):Prop where
 post:∀j,j<4->∃vs,RfAt w (P j) (j:Nat) vs (bs j)/\∀i,i<4->0<(bs j i).length->∀g,(vs i).ownBlock=some g->¬K g
 ne:∀i j,i<4->j<4->i≠j->P i≠P j
 row:∀j,j<4->w.cell? ⟨Sb,j,none⟩=some (.pointer (some ⟨P j,0,none⟩))
 ok:∀j,j<4->a08 (bs j)
 sl:∀j,j<4->Sb≠P j
 lt:∀g,K g->g<w.heap.size
 kp:∀j,j<4->¬K (P j)
 ks:¬K Sb
def PL(P:Nat->Nat):List Nat:=[P 0,P 1,P 2,P 3]
theorem mem_PL{P:Nat->Nat}{j:Nat}(hj:j<4):P j∈PL P:=by
 unfold PL;rcases (show j=0\/j=1\/j=2\/j=3 by omega)with rfl|rfl|rfl|rfl<;>simp
theorem RpP.below{K:Nat->Prop}{w w':World}{Sb:Nat}{P:Nat->Nat}{bs:Nat->Book}(h:RpP K w Sb P bs)(hb:Below w.heap.size w w'):RpP K w' Sb P bs:=
 ⟨fun j hj=>by obtain⟨vs,h1,h2⟩:=h.post j hj;exact⟨vs,h1.below hb,h2⟩,h.ne,fun j hj=>keep_cell hb (h.row j hj),h.ok,h.sl,fun g hg=>Nat.lt_of_lt_of_le (h.lt g hg) hb.size,h.kp,h.ks⟩
theorem RpP.turn{K:Nat->Prop}{w w':World}{Sb:Nat}{P:Nat->Nat}{bs:Nat->Book}(h:RpP K w Sb P bs){n:Nat}(hn:n<4)(ho:Off [P n] w w'){vn us:Nat->Value}{c:Book}(hvn:RfAt w (P n) (n:Nat) vn (bs n))(hvK:∀i,i<4->0<(bs n i).length->∀g,(vn i).ownBlock=some g->¬K g)(hr:RfAt w' (P n) (n:Nat) us c)(hr2:a6U w w' (bs n) c vn us)(hc:a08 c):RpP K w' Sb P (setN bs n c):=by
 refine⟨fun j hj=>?_,h.ne,fun j hj=>?_,fun j hj=>?_,h.sl,fun g hg=>Nat.lt_of_lt_of_le (h.lt g hg) ho.size,h.kp,h.ks⟩
 ·unfold setN;by_cases e:j=n
  ·subst e;rw[if_pos rfl];refine⟨us,hr,fun i hi h0 g hg hK=>?_⟩;rcases hr2 i hi h0 g hg with⟨j',hj',h0',hg'⟩|h9
   ·exact hvK j' hj' h0' g hg' hK
   have:=h.lt g hK;omega
  rw[if_neg e];obtain⟨vs,hv,hvs⟩:=h.post j hj
  obtain⟨vs',h1,h2⟩:=hv.rp.keep (ho.block _ hv.lt (by simpa using h.ne j n hj hn e)) (fun k hk hlt=>ho.block k hlt (by
   obtain⟨i,hi,h0,h9⟩:=mem_gBlk.1 hk;have:=a5N hvn (hv.2 i hi) h0;simp only[List.mem_singleton];rintro rfl;exact this h9))
  refine⟨vs',h1,fun i hi h0 g hg=>?_⟩;obtain⟨i',hi',h0',h9⟩:=mem_gBlk.1 (h2 i hi h0 g hg);exact hvs i' hi' h0' g h9
 ·have h9:=h.row j hj;exact(World.cell?_of_block (w:=w) (ho.block Sb (World.block_lt_of_cell? _ _ h9) (by simpa using h.sl n hn))).trans h9
 unfold setN;split
 ·exact hc
 exact h.ok j hj
theorem a8V{w w':World}{P:Nat->Nat}{n:Nat}(hn:n<4)(h:Off [P n] w w'):Off (PL P) w w':=
 ⟨h.os,h.tape,h.output,h.size,fun k hk hm=>h.block k hk (by simp only[List.mem_singleton];rintro rfl;exact hm (mem_PL hn))⟩
theorem ah6(bs:Nat->Book)(n:Nat):setN bs n (bs n)=bs:=by
 funext j;unfold setN;split
 ·rename_i e;rw[e]
 rfl
def abY(K:Nat->Prop)(P:Nat->Nat)(Sb:Nat)(r:(ByteArray×Int)×(Nat->Book))(w:World)(e:Ending)(w':World):Prop:=
 e= .returned (.tuple #[.string r.1.1,.int .i64 r.1.2])/\RpP K w' Sb P r.2/\Off (PL P) w w'
theorem aae(b c:Book):(a0x b c).1=0\/(a0x b c).1=102:=by
 unfold a0x;split<;>simp
theorem aeX (K:Nat->Prop) (Sb:Nat) (P:Nat->Nat) (bs:Nat->Book) (line:ByteArray) (hs:line.size<=1000000) (w:World) (h:RpP K w Sb P bs):
  Calls Tryz.prog 49 #[.slice (some ⟨Sb,0,none⟩) 4 4,.string line] w (abY K P Sb (a1Y bs line) w):=by
 obtain⟨R,hR⟩:∃R,R=a1Y bs line:=⟨_,rfl⟩
 rw[<-hR];unfold a1Y at hR;have HP:=hid h;have hl0:line.data.toList.length<=1000000:=by rw[<-a03];exact hs
 have HCUT:=hid (a4D line.data.toList w (by omega));rw[a3C]at HCUT;unfold a4Y at HCUT;have HCL:=hid (a2Q line.data.toList);generalize cutR line.data.toList=cc at *;obtain⟨ca,cr,cq⟩:=cc;simp only at hR HCUT HCL;have HNAT:=hid (fun W=>a6C ca 1 W (by omega) (by have:=HCL.out.1;omega));unfold Nat2 at HNAT;have hcr:cr.length<=1000000:=by have:=HCL.out.2;omega
 clear h hs hl0;cases hna:natR ca 1 with
 |none=>
  rw[hna]at hR HNAT;have HR2:=hid hR;simp only[natP,Option.getD_none,Option.isSome_none]at HNAT;clear hR hna;go_enter Tryz.func49,Tryz.ntmps49;go_wp2_with fail
  refine HCUT.out.mono ?_;rintro e w2 ⟨rfl,hbn⟩;have HBN:=hid hbn;clear hbn;go_wp2_with fail
  refine(HNAT.out _).mono ?_
  rintro e w3 ⟨rfl,rfl⟩;go_wp2;go_ret2;rw[HR2.out];exact⟨rfl,HP.out.below HBN.out,Off.of_below HBN.out⟩
 | some n=>
  rw[hna]at hR HNAT;simp only[natP,Option.getD_some,Option.isSome_some]at HNAT;simp only at hR;clear hna;cases cq with
  |false=>
   have HR2:Hid (R=((emp,100),bs)):=hid (by rw[hR,if_neg (by simp)]);clear hR;go_enter Tryz.func49,Tryz.ntmps49;go_wp2_with fail
   refine HCUT.out.mono ?_;rintro e w2 ⟨rfl,hbn⟩;have HBN:=hid hbn;clear hbn;go_wp2_with fail
   refine(HNAT.out _).mono ?_
   rintro e w3 ⟨rfl,rfl⟩;go_wp2;go_ret2;rw[HR2.out];exact⟨rfl,HP.out.below HBN.out,Off.of_below HBN.out⟩
  | true=>
   by_cases hn3:n<=3
   ·have hn3i:¬(3:Int)<(n:Int):=by omega
    have hn4i:(n:Int)<4:=by omega
    have hn0i:(0:Int)<=(n:Int):=by omega
    rw[if_pos ⟨rfl,hn3⟩]at hR;have HN4:Hid (n<4):=hid (by omega);unfold a54 at hR;rw[a0N]at hR;have HCUT2:=hid (fun W=>a4D cr W (by omega));unfold a4Y at HCUT2;have HCL2:=hid (a2Q cr);generalize hrest:bsB cr=rest at *;have HRS:Hid (rest.size<=1000000):=hid (by rw[<-hrest,bsB_size];exact hcr);generalize cutR cr=cc at *;obtain⟨da,db,dq⟩:=cc;simp only at hR HCUT2 HCL2;have HNAT2:=hid (fun W=>a6C db 1 W (by omega) (by have:=HCL2.out.2;omega));unfold Nat2 at HNAT2;clear hrest hn3;by_cases hj:da=a3N
    ·subst hj;have e1:((bsB a3N).toList==([106,111,105,110]:List UInt8))=true:=by kernel_rfl
     rw[if_pos rfl]at hR;cases hnb:natR db 1 with
     |none=>
      rw[hnb]at hR HNAT2;have HR2:=hid hR;simp only[natP,Option.getD_none,Option.isSome_none]at HNAT2;clear hR hnb;go_enter Tryz.func49,Tryz.ntmps49;go_wp2_with fail
      refine HCUT.out.mono ?_;rintro e w2 ⟨rfl,hbn⟩;have HBN1:=hid hbn;have r0:=keep_cell hbn (HP.out.row n HN4.out);clear hbn;go_wp2_with fail
      refine(HNAT.out _).mono ?_
      rintro e w3 ⟨rfl,rfl⟩;go_wp2_with fail
      refine(HCUT2.out _).mono ?_
      rintro e w3 ⟨rfl,hbn⟩;have HBN:=hid (below_trans HBN1.out hbn);clear hbn;go_wp2_with fail
      refine(HNAT2.out _).mono ?_
      rintro e w4 ⟨rfl,rfl⟩;go_wp2;go_ret2;rw[HR2.out];exact⟨rfl,HP.out.below HBN.out,Off.of_below HBN.out⟩
     | some k=>
      rw[hnb]at hR HNAT2;simp only[natP,Option.getD_some,Option.isSome_some]at HNAT2;simp only at hR;clear hnb;by_cases hk3:k<=3
      ·have hk3i:¬(3:Int)<(k:Int):=by omega
       have hk4i:(k:Int)<4:=by omega
       have hk0i:(0:Int)<=(k:Int):=by omega
       rw[if_pos hk3]at hR;have HK4:Hid (k<4):=hid (by omega);obtain⟨vs,hv,hvK⟩:=HP.out.post n HN4.out;have HVN:=hid hv;have HVK:=hid hvK;obtain⟨us,hu,_⟩:=HP.out.post k HK4.out;have HJN:=hid (fun W (hW:Below w.heap.size w W)=>ah5 (P n) n vs (bs n) us (bs k) W (hv.below hW) (fun i hi=>(hu.2 i hi).below hW) (HP.out.ok n HN4.out) (HP.out.ok k HK4.out) (fun i hi h0=>a5N hv (hv.2 i hi) h0) (fun i hi h0=>a5N hv (hu.2 i hi) h0));unfold aad at HJN;have HJO:=hid (aaX (HP.out.ok n HN4.out) (HP.out.ok k HK4.out));have HU0:Hid (w.cell? ⟨P k,1,none⟩=some (us 0)):=hid (hu.cell (i:=0) (by omega));have HU1:Hid (w.cell? ⟨P k,1+1,none⟩=some (us 1)):=hid (hu.cell (i:=1) (by omega));have HU2:Hid (w.cell? ⟨P k,1+2,none⟩=some (us 2)):=hid (hu.cell (i:=2) (by omega));have HU3:Hid (w.cell? ⟨P k,1+3,none⟩=some (us 3)):=hid (hu.cell (i:=3) (by omega));have hje:=aae (bs n) (bs k);generalize a0x (bs n) (bs k)=J at *;obtain⟨je,jc⟩:=J;simp only at hR HJN HJO hje;clear hk3 hv hu hvK;rcases hje with rfl|rfl
       ·have HR2:Hid (R=((itoaB (lenB jc:Int),0),setN bs n jc)):=hid hR;have HLN:Hid (lenB jc<=240):=hid (a1w HJO.out);simp only[decide_true]at HJN;clear hR;go_enter Tryz.func49,Tryz.ntmps49;go_wp2_with fail
        refine HCUT.out.mono ?_;rintro e w2 ⟨rfl,hbn⟩;have HBN1:=hid hbn;have r0:=keep_cell hbn (HP.out.row n HN4.out);clear hbn;go_wp2_with fail
        refine(HNAT.out _).mono ?_
        rintro e w3 ⟨rfl,rfl⟩;go_wp2_with fail
        refine(HCUT2.out _).mono ?_
        rintro e w3 ⟨rfl,hbn⟩;have HBN:=hid (below_trans HBN1.out hbn);clear hbn r0;go_wp2_with fail
        refine(HNAT2.out _).mono ?_
        rintro e w4 ⟨rfl,rfl⟩;have r1:=keep_cell HBN.out (HP.out.row k HK4.out);have d0:=keep_cell HBN.out HU0.out;have d1:=keep_cell HBN.out HU1.out;have d2:=keep_cell HBN.out HU2.out;have d3:=keep_cell HBN.out HU3.out;go_wp2_with fail
        refine(HJN.out _ HBN.out).mono ?_
        rintro e w5 ⟨rfl,u5,hrf,hrw,hoff⟩;have HP5:=hid ((HP.out.below HBN.out).turn HN4.out hoff (HVN.out.below HBN.out) HVK.out hrf hrw HJO.out);have HOF:=hid ((Off.of_below HBN.out:Off (PL P) w w3).trans (a8V HN4.out hoff));have HBK:=hid (aab (P n) n u5 jc w5 hrf HJO.out);clear hrf hoff hrw r1 d0 d1 d2 d3;go_wp2_with fail
        refine HBK.out.mono ?_;rintro e w6 ⟨v,rfl,hl,_,hb6⟩;have HB6:=hid hb6;obtain⟨a,cp,rfl⟩:=own_shape hl;rw[a10];have HD:=hid (fun W=>a1P (lenB jc:Int) W (by omega) (by have:=HLN.out;omega));clear hl hb6;go_wp2_with fail
        refine(HD.out _).mono ?_
        rintro e w7 ⟨rfl,hb7⟩;have HB7:=hid (below_trans HB6.out hb7);clear hb7;go_wp2;go_ret2;rw[HR2.out];exact⟨rfl,HP5.out.below HB7.out,HOF.out.trans (Off.of_below HB7.out)⟩
       have HR2:Hid (R=((emp,102),setN bs n jc)):=hid hR;simp only[show¬((102:Int)=0) by decide,decide_false]at HJN;clear hR;go_enter Tryz.func49,Tryz.ntmps49;go_wp2_with fail
       refine HCUT.out.mono ?_;rintro e w2 ⟨rfl,hbn⟩;have HBN1:=hid hbn;have r0:=keep_cell hbn (HP.out.row n HN4.out);clear hbn;go_wp2_with fail
       refine(HNAT.out _).mono ?_
       rintro e w3 ⟨rfl,rfl⟩;go_wp2_with fail
       refine(HCUT2.out _).mono ?_
       rintro e w3 ⟨rfl,hbn⟩;have HBN:=hid (below_trans HBN1.out hbn);clear hbn r0;go_wp2_with fail
       refine(HNAT2.out _).mono ?_
       rintro e w4 ⟨rfl,rfl⟩;have r1:=keep_cell HBN.out (HP.out.row k HK4.out);have d0:=keep_cell HBN.out HU0.out;have d1:=keep_cell HBN.out HU1.out;have d2:=keep_cell HBN.out HU2.out;have d3:=keep_cell HBN.out HU3.out;go_wp2_with fail
       refine(HJN.out _ HBN.out).mono ?_
       rintro e w5 ⟨rfl,u5,hrf,hrw,hoff⟩;have HP5:=hid ((HP.out.below HBN.out).turn HN4.out hoff (HVN.out.below HBN.out) HVK.out hrf hrw HJO.out);have HOF:=hid ((Off.of_below HBN.out:Off (PL P) w w3).trans (a8V HN4.out hoff));clear hrf hoff hrw r1 d0 d1 d2 d3;go_wp2;go_ret2;rw[HR2.out];exact⟨rfl,HP5.out,HOF.out⟩
      have hk3i:(3:Int)<(k:Int):=by omega
      have HR2:Hid (R=((emp,100),bs)):=hid (by rw[hR,if_neg hk3]);clear hR hk3;go_enter Tryz.func49,Tryz.ntmps49;go_wp2_with fail
      refine HCUT.out.mono ?_;rintro e w2 ⟨rfl,hbn⟩;have HBN1:=hid hbn;have r0:=keep_cell hbn (HP.out.row n HN4.out);clear hbn;go_wp2_with fail
      refine(HNAT.out _).mono ?_
      rintro e w3 ⟨rfl,rfl⟩;go_wp2_with fail
      refine(HCUT2.out _).mono ?_
      rintro e w3 ⟨rfl,hbn⟩;have HBN:=hid (below_trans HBN1.out hbn);clear hbn;go_wp2_with fail
      refine(HNAT2.out _).mono ?_
      rintro e w4 ⟨rfl,rfl⟩;go_wp2;go_ret2;rw[HR2.out];exact⟨rfl,HP.out.below HBN.out,Off.of_below HBN.out⟩
    have e1:((bsB da).toList==([106,111,105,110]:List UInt8))=false:=a0u (l:=[106,111,105,110]) (fun e=>hj (a8Y e));rw[if_neg hj]at hR;obtain⟨vs,hv,hvK⟩:=HP.out.post n HN4.out;have HVN:=hid hv;have HVK:=hid hvK;have HDO:=hid (fun W (hW:Below w.heap.size w W)=>ajG (P n) n HN4.out vs (bs n) rest HRS.out W (hv.below hW) (HP.out.ok n HN4.out) (fun i hi h0=>a5N hv (hv.2 i hi) h0));unfold ado at HDO;have HCK:=hid (af7 (HP.out.ok n HN4.out) HN4.out rest)
    have HD100:Hid ((doB (bs n) n rest).2.1=100->(doB (bs n) n rest).2.2=bs n):=hid (fun h9=>by
     cases hd:Cmd.deedO (a02 rest)with
     |true=>exact absurd h9 (adi hd)
     |false=>rw[agM hd])
    generalize doB (bs n) n rest=D at *;obtain⟨ra,re,c⟩:=D;simp only at hR HDO HCK HD100;clear hj HNAT2 HCL2 hv hvK;by_cases h100:re=100
    ·subst h100;obtain rfl:=HD100.out rfl;have HR2:Hid (R=(askB (bs n) rest,bs)):=hid (by rw[hR,if_pos rfl]);clear hR HD100;go_enter Tryz.func49,Tryz.ntmps49;go_wp2_with fail
     refine HCUT.out.mono ?_;rintro e w2 ⟨rfl,hbn⟩;have HBN1:=hid hbn;have r0:=keep_cell hbn (HP.out.row n HN4.out);clear hbn;go_wp2_with fail
     refine(HNAT.out _).mono ?_
     rintro e w3 ⟨rfl,rfl⟩;go_wp2_with fail
     refine(HCUT2.out _).mono ?_
     rintro e w3 ⟨rfl,hbn⟩;have HBN:=hid (below_trans HBN1.out hbn);clear hbn r0;go_wp2_with fail
     refine(HDO.out _ HBN.out).mono ?_
     rintro e w4 ⟨rfl,us,hrf,hrw,hoff⟩;have HP4:=hid ((HP.out.below HBN.out).turn HN4.out hoff (HVN.out.below HBN.out) HVK.out hrf hrw HCK.out);have HOF:=hid ((Off.of_below HBN.out:Off (PL P) w w3).trans (a8V HN4.out hoff));have HASK:=hid (aiz (P n) n us (bs n) rest HRS.out w4 hrf HCK.out);unfold a0t at HASK;generalize askB (bs n) rest=A at *;obtain⟨aa,ae⟩:=A;clear hrf hoff hrw;go_wp2_with fail
     refine HASK.out.mono ?_;rintro e w5 ⟨rfl,hb5⟩;have HB5:=hid hb5;clear hb5;go_wp2;go_ret2;rw[HR2.out];refine⟨rfl,?_,HOF.out.trans (Off.of_below HB5.out)⟩;have h9:=HP4.out.below HB5.out;rw[ah6]at h9;exact h9
    have e2:(re==100)=false:=by simpa using h100
    have HR2:Hid (R=((ra,re),setN bs n c)):=hid (by rw[hR,if_neg h100]);clear hR HD100 h100;go_enter Tryz.func49,Tryz.ntmps49;go_wp2_with fail
    refine HCUT.out.mono ?_;rintro e w2 ⟨rfl,hbn⟩;have HBN1:=hid hbn;have r0:=keep_cell hbn (HP.out.row n HN4.out);clear hbn;go_wp2_with fail
    refine(HNAT.out _).mono ?_
    rintro e w3 ⟨rfl,rfl⟩;go_wp2_with fail
    refine(HCUT2.out _).mono ?_
    rintro e w3 ⟨rfl,hbn⟩;have HBN:=hid (below_trans HBN1.out hbn);clear hbn r0;go_wp2_with fail
    refine(HDO.out _ HBN.out).mono ?_
    rintro e w4 ⟨rfl,us,hrf,hrw,hoff⟩;have HP4:=hid ((HP.out.below HBN.out).turn HN4.out hoff (HVN.out.below HBN.out) HVK.out hrf hrw HCK.out);have HOF:=hid ((Off.of_below HBN.out:Off (PL P) w w3).trans (a8V HN4.out hoff));clear hrf hoff hrw;go_wp2;go_ret2;rw[HR2.out];exact⟨rfl,HP4.out,HOF.out⟩
   have hn3i:(3:Int)<(n:Int):=by omega
   have HR2:Hid (R=((emp,100),bs)):=hid (by rw[hR,if_neg (fun h=>hn3 h.2)]);clear hR hn3;go_enter Tryz.func49,Tryz.ntmps49;go_wp2_with fail
   refine HCUT.out.mono ?_;rintro e w2 ⟨rfl,hbn⟩;have HBN:=hid hbn;clear hbn;go_wp2_with fail
   refine(HNAT.out _).mono ?_
   rintro e w3 ⟨rfl,rfl⟩;go_wp2;go_ret2;rw[HR2.out];exact⟨rfl,HP.out.below HBN.out,Off.of_below HBN.out⟩
theorem abZ(c:List Int)(n:Int):0<=Fd.shareE c n 4/\Fd.shareE c n 4<=1000:=by
 unfold Fd.shareE Fd.askE;split<;>split<;>(try split)<;>(try split)<;>omega
theorem ac0(t:List (List Int))(r:Bool):0<=Td.qe t r/\Td.qe t r<=1000:=by
 unfold Td.qe;split<;>(try split)<;>omega
theorem ah7(k:Nat)(ns:List Int)(ts:List ByteArray):0<=(ansK k ns ts).2/\(ansK k ns ts).2<=1000:=by
 unfold ansK;split
 ·simp[a1N]
 split
 ·unfold a14;split
  ·simp
  exact ac0 _ _
 split
 ·show 0<=farE _ _/\farE _ _<=1000;unfold farE;split<;>omega
 unfold a0O;split
 ·simp
 exact ac0 _ _
theorem aaf(b:Book)(l:ByteArray):0<=(askB b l).2/\(askB b l).2<=1000:=by
 unfold askB;cases a02 l with
 |none=>simp
 | some c=>
  cases c with
  |stock x=>simp[askV,a2H]
  |share m x=>exact abZ _ _
  |asked k x ns=>
   show 0<=(a0h _ _ _).2/\(a0h _ _ _).2<=1000
   unfold a0h;split
   ·simp
   split
   ·simp
   exact ah7 _ _ _
  |_=>simp[askV]
theorem ac1(bs:Nat->Book)(line:ByteArray):0<=(a1Y bs line).1.2/\(a1Y bs line).1.2<=1000:=by
 unfold a1Y;split
 ·split
  ·unfold a54;split
   ·split
    ·split
     ·simp only;rcases aae (bs _) (bs _)with h|h<;>rw[h]<;>omega
     simp
    simp
   split
   ·exact aaf _ _
   exact acW _ _ _
  simp
 simp
theorem ajH{w:World}{v:Value}{l:List Ent}(hE:EntsAt w v l)(h0:0<l.length){g:Nat}(hg:v.ownBlock=some g):g<w.heap.size:=by
 obtain⟨g',off,cap,rfl,p1,_⟩:=hE.entry h0;have:g'=g:=by simpa [Value.ownBlock]using hg
 subst this;exact World.block_lt_of_cell? _ _ p1
theorem RpP.push{w w2:World}{Sb:Nat}{P:Nat->Nat}{bs:Nat->Book}{o:Option Nat}{g:Nat}{ob:Obj}(h:RpP (fun b=>o=some b) w Sb P bs)(hg:(w.alloc ob).grownBy w2 o)(hat:o=some g\/g=w.heap.size+1)(hlt:g<w2.heap.size):RpP (fun b=>some g=some b) w2 Sb P bs:=by
 have hsz:(w.alloc ob).heap.size=w.heap.size+1:=by simp
 have hsz2:=hg.size;have hsame:∀k,k<w.heap.size->o≠some k->w2.heap[k]? =w.heap[k]? :=fun k h1 h2=>(hg.block k (by omega) (fun e=>h2 e.symm)).trans (Below.heap_alloc _ _ _ (by omega))
 have hne:∀k,k<w.heap.size->o≠some k->g≠k:=fun k h1 h2 e=>by
  subst e;rcases hat with h5|h5
  ·exact h2 h5
  omega
 have hSb:Sb<w.heap.size:=World.block_lt_of_cell? _ _ (h.row 0 (by omega));refine⟨fun j hj=>?_,h.ne,fun j hj=>?_,h.ok,h.sl,fun k hk=>?_,fun j hj hk=>?_,fun hk=>?_⟩
 ·obtain⟨vs,hv,hvs⟩:=h.post j hj
  obtain⟨vs',h1,h2⟩:=hv.rp.keep (hsame _ hv.lt (h.kp j hj)) (fun k hk hlt=>hsame k hlt (by
   obtain⟨i,hi,h0,h9⟩:=mem_gBlk.1 hk;exact hvs i hi h0 k h9))
  refine⟨vs',h1,fun i hi h0 k hk hK=>?_⟩;obtain⟨i',hi',h0',h9⟩:=mem_gBlk.1 (h2 i hi h0 k hk);injection hK with hK
  exact hne k (ajH (hv.2 i' hi') h0' h9) (hvs i' hi' h0' k h9) hK
 ·exact(World.cell?_of_block (w:=w) (hsame Sb hSb h.ks)).trans (h.row j hj)
 ·injection hk with hk;omega
 ·injection hk with hk
  obtain⟨vs,hv,_⟩:=h.post j hj;exact hne (P j) hv.lt (h.kp j hj) hk
 injection hk with hk
 exact hne Sb hSb h.ks hk
theorem Off.to_below{B:Nat}{F:List Nat}{a b c:World}(h:Below B a b)(hB:B<=b.heap.size)(ho:Off F b c)(hF:∀k∈F,B<=k):Below B a c:=
 ⟨ho.os.trans h.os,ho.tape.trans h.tape,ho.output.trans h.output,Nat.le_trans h.size ho.size,fun k hk=>(ho.block k (by omega) (fun hm=>by have:=hF k hm;omega)).trans (h.block k hk)⟩
def newO(j:Int):Obj:=.cells #[.int .i64 j,.slice none 0 0,.slice none 0 0,.slice none 0 0,.slice none 0 0] 54
theorem a8W{W:World}{p:Nat}{j:Int}(h:W.heap[p]? =some (newO j)):RfAt W p j (fun _=>.slice none 0 0) empB:=
 ⟨h,fun i _=>⟨none,0,rfl,by simp[empB],fun h0=>absurd h0 (by simp[empB])⟩⟩
theorem RpP.start{K:Nat->Prop}{w w1 w2 w3 w4:World}(h1:w1=w.alloc (newO 0))(h2:w2=w1.alloc (newO 1))(h3:w3=w2.alloc (newO 2))(h4:w4=w3.alloc (newO 3))(hK:∀g,¬K g):
  RpP K (w4.alloc (.cells #[.pointer (some ⟨w.heap.size,0,none⟩),.pointer (some ⟨w1.heap.size,0,none⟩),.pointer (some ⟨w2.heap.size,0,none⟩),.pointer (some ⟨w3.heap.size,0,none⟩)] 46)) w4.heap.size (fun j=>w.heap.size+j) (fun _=>empB)/\Below w.heap.size w (w4.alloc (.cells #[.pointer (some ⟨w.heap.size,0,none⟩),.pointer (some ⟨w1.heap.size,0,none⟩),.pointer (some ⟨w2.heap.size,0,none⟩),.pointer (some ⟨w3.heap.size,0,none⟩)] 46))/\w4.heap.size=w.heap.size+4:=by
 have s1:w1.heap.size=w.heap.size+1:=by rw[h1];simp
 have s2:w2.heap.size=w.heap.size+2:=by rw[h2,World.size_alloc,s1]
 have s3:w3.heap.size=w.heap.size+3:=by rw[h3,World.size_alloc,s2]
 have s4:w4.heap.size=w.heap.size+4:=by rw[h4,World.size_alloc,s3]
 have b1:Below w.heap.size w w1:=by rw[h1];exact(Below.refl _ _).alloc (Nat.le_refl _) _
 have b2:Below w1.heap.size w1 w2:=by rw[h2];exact(Below.refl _ _).alloc (Nat.le_refl _) _
 have b3:Below w2.heap.size w2 w3:=by rw[h3];exact(Below.refl _ _).alloc (Nat.le_refl _) _
 have b4:Below w3.heap.size w3 w4:=by rw[h4];exact(Below.refl _ _).alloc (Nat.le_refl _) _
 have b5:Below w4.heap.size w4 (w4.alloc (.cells #[.pointer (some ⟨w.heap.size,0,none⟩),.pointer (some ⟨w1.heap.size,0,none⟩),.pointer (some ⟨w2.heap.size,0,none⟩),.pointer (some ⟨w3.heap.size,0,none⟩)] 46)):=(Below.refl _ _).alloc (Nat.le_refl _) _
 have hcell:(w4.alloc (.cells #[.pointer (some ⟨w.heap.size,0,none⟩),.pointer (some ⟨w1.heap.size,0,none⟩),.pointer (some ⟨w2.heap.size,0,none⟩),.pointer (some ⟨w3.heap.size,0,none⟩)] 46)).heap[w4.heap.size]? =some (.cells #[.pointer (some ⟨w.heap.size,0,none⟩),.pointer (some ⟨w1.heap.size,0,none⟩),.pointer (some ⟨w2.heap.size,0,none⟩),.pointer (some ⟨w3.heap.size,0,none⟩)] 46 (0,0)):=World.alloc_heap_new w4 _
 have p0:w1.heap[w.heap.size]? =some (newO 0):=by rw[h1];exact World.alloc_heap_new w _
 have p1:w2.heap[w.heap.size+1]? =some (newO 1):=by rw[h2,<-s1];exact World.alloc_heap_new w1 _
 have p2:w3.heap[w.heap.size+2]? =some (newO 2):=by rw[h3,<-s2];exact World.alloc_heap_new w2 _
 have p3:w4.heap[w.heap.size+3]? =some (newO 3):=by rw[h4,<-s3];exact World.alloc_heap_new w3 _
 generalize w4.alloc (.cells #[.pointer (some ⟨w.heap.size,0,none⟩),.pointer (some ⟨w1.heap.size,0,none⟩),.pointer (some ⟨w2.heap.size,0,none⟩),.pointer (some ⟨w3.heap.size,0,none⟩)] 46)=w5 at *;have q3:=(b5.block _ (by omega)).trans p3
 have q2:=(b5.block _ (by omega)).trans ((b4.block _ (by omega)).trans p2)
 have q1:=(b5.block _ (by omega)).trans ((b4.block _ (by omega)).trans ((b3.block _ (by omega)).trans p1))
 have q0:=(b5.block _ (by omega)).trans ((b4.block _ (by omega)).trans ((b3.block _ (by omega)).trans ((b2.block _ (by omega)).trans p0)))
 refine⟨⟨fun j hj=>⟨fun _=>.slice none 0 0,?_,fun i hi h0=>absurd h0 (by simp[empB])⟩,fun i j hi hj hn=>by omega,fun j hj=>?_,fun j hj=>a8X,fun j hj=>by omega,fun g hg=>absurd hg (hK g),fun j hj=>hK _,hK _⟩,below_trans (below_trans (below_trans (below_trans b1 b2) b3) b4) b5,s4⟩
 ·rcases (show j=0\/j=1\/j=2\/j=3 by omega)with rfl|rfl|rfl|rfl
  ·exact a8W q0
  ·exact a8W q1
  ·exact a8W q2
  exact a8W q3
 rcases (show j=0\/j=1\/j=2\/j=3 by omega)with rfl|rfl|rfl|rfl
 ·exact heap_cell hcell rfl
 ·rw[<-s1];exact heap_cell hcell rfl
 ·rw[<-s2];exact heap_cell hcell rfl
 rw[<-s3];exact heap_cell hcell rfl
theorem ah8(lv:Value)(lines:List ByteArray)(w:World)(hL:StrsW w lv lines)(hl:lines.length<=100)(hsz:∀x∈lines,x.size<=1000000):
  Calls Tryz.prog 18 #[lv] w (a5B (a0p askB lines lines.length).1 w):=by
 obtain⟨i1,hi1,hy0,hy1,hy2⟩:=info_parts Tryz.infoStr;obtain⟨la,lcap,rfl,hq⟩:=hL;obtain⟨nl,hnl⟩:∃nl,nl=lines.length:=⟨_,rfl⟩
 have HN:=hid hnl;have HSZ:Hid (∀k,k<nl->(lines.getD k emp).size<=1000000):=hid (fun k hk=>hsz _ (by rw[List.getD_eq_getElem?_getD,List.getElem?_eq_getElem (by omega)];exact List.getElem_mem _))
 have HLI:Hid (∀k,k<nl->∃b off,la=some ⟨b,off,none⟩/\w.cell? ⟨b,off+k,none⟩=some (.string (lines.getD k emp))):=hid (fun k hk=>by
  obtain⟨b,off,h1,h2⟩:=hq (by omega);exact⟨b,off,h1,h2 k (by omega)⟩)
 rw[<-hnl]at hl⊢;have hl100:¬(100:Int)<(nl:Int):=by omega
 clear hnl hsz hq;go_enter Tryz.func18,Tryz.ntmps18;go_wp2_with fail
 refine(a5K 0 w).mono ?_
 rintro e w1 ⟨rfl,hw1⟩;have HW1:Hid (w1=w.alloc (newO 0)):=hid hw1;clear hw1;go_wp2_with fail
 refine(a5K 1 w1).mono ?_
 rintro e w2 ⟨rfl,hw2⟩;have HW2:Hid (w2=w1.alloc (newO 1)):=hid hw2;clear hw2;go_wp2_with fail
 refine(a5K 2 w2).mono ?_
 rintro e w3 ⟨rfl,hw3⟩;have HW3:Hid (w3=w2.alloc (newO 2)):=hid hw3;clear hw3;go_wp2_with fail
 refine(a5K 3 w3).mono ?_
 rintro e w4 ⟨rfl,hw4⟩;have HW4:Hid (w4=w3.alloc (newO 3)):=hid hw4;clear hw4;have HST:=hid (RpP.start (K:=fun b=>(Value.slice none 0 0).ownBlock=some b) HW1.out HW2.out HW3.out HW4.out (fun g hg=>by cases hg));go_wp2_with fail
 obtain⟨hp5,hb5,h54⟩:=HST.out;obtain⟨S,hS⟩:∃S,S=w4.heap.size:=⟨_,rfl⟩
 rw[<-hS]at hp5⊢;generalize w4.alloc (.cells #[.pointer (some ⟨w.heap.size,0,none⟩),.pointer (some ⟨w1.heap.size,0,none⟩),.pointer (some ⟨w2.heap.size,0,none⟩),.pointer (some ⟨w3.heap.size,0,none⟩)] 46)=w5 at *;obtain⟨P,hP⟩:∃P:Nat->Nat,P=fun j=>w.heap.size+j:=⟨_,rfl⟩
 rw[<-hP]at hp5
 have HPL:Hid (∀g∈PL P,w.heap.size<=g/\∃j,j<4/\g=P j):=hid (fun g hg=>by
  unfold PL at hg;simp only[List.mem_cons,List.not_mem_nil,or_false]at hg;rcases hg with rfl|rfl|rfl|rfl
  ·exact⟨by rw[hP];simp,0,by omega,rfl⟩
  ·exact⟨by rw[hP];simp,1,by omega,rfl⟩
  ·exact⟨by rw[hP];simp,2,by omega,rfl⟩
  exact⟨by rw[hP];simp,3,by omega,rfl⟩)
 have HP5:=hid hp5;have HB5:=hid hb5;clear hp5 hb5 hS HST h54 hP;go_loopw [5,6] (fun o i wr=>∃k:Nat,k<=nl/\i= .int .i64 k/\Hid (RpP (fun b=>o.ownBlock=some b) wr S P (a0p askB lines k).2)/\Hid (wr.ownsRow w.heap.size 9 1 o k ((a0p askB lines k).1.map Value.string))/\Hid (Below w.heap.size w wr)) (fun _ i _=>nl-(intOf i).toNat)
 case atStart=>exact⟨0,Nat.zero_le _,rfl,HP5,hid (World.ownsRow_nil _ _ _ _),HB5⟩
 case round=>
  obtain⟨k,hk,rfl,HPK,HOK,HBK⟩:=hrel;by_cases hlt:k<nl
  ·have hlti:(k:Int)<(nl:Int):=by omega
   obtain⟨lb,loff,rfl,hc0⟩:=HLI.out k hlt;have hc:=keep_cell HBK.out hc0;have HXS:=hid (HSZ.out k hlt);have HSAME:=hid (agP (a0p askB lines k).2 (lines.getD k emp));have HPN:Hid ((a0p askB lines (k+1)).1=(a0p askB lines k).1++[a1M (a1Y (a0p askB lines k).2 (lines.getD k emp)).1]):=hid (by rw[HSAME.out.1];rfl);have HPB:Hid ((a0p askB lines (k+1)).2=(a1Y (a0p askB lines k).2 (lines.getD k emp)).2):=hid (by rw[HSAME.out.2];rfl);have HSM:=hid (ac1 (a0p askB lines k).2 (lines.getD k emp));have HLN:=hid (aeX _ S P (a0p askB lines k).2 (lines.getD k emp) HXS.out wr HPK.out);unfold abY at HLN;obtain⟨oa,oc,rfl⟩:=own_shape HOK.out;have hszr:w.heap.size<=wr.heap.size:=HBK.out.size;generalize a1Y (a0p askB lines k).2 (lines.getD k emp)=r at *
   generalize lines.getD k emp=x at *;obtain⟨⟨ra,re⟩,bs'⟩:=r;simp only at HPN HPB HSM HLN;clear hc0 HSAME;go_wp2_with fail
   refine HLN.out.mono ?_;rintro e w6 ⟨rfl,hp6,hoff⟩;have HB6:=hid (Off.to_below HBK.out HBK.out.size hoff (fun g hg=>(HPL.out g hg).1))
   have HO6:=hid (a0m HOK.out (fun g hg=>hoff.block g (HPK.out.lt g hg) (fun hm=>by
    obtain⟨_,j,hj,rfl⟩:=HPL.out g hm;exact HPK.out.kp j hj hg)))
   have HP6:=hid hp6;have hsz6:w.heap.size<=w6.heap.size:=HB6.out.size;clear hp6 hoff hc;by_cases h0:re=0
   ·subst h0;have HPA:Hid (a1M (ra,0)=ra):=hid rfl;go_wp2_with (at_builtin;refine wpList_append_lies _ rfl _ _ 22 rfl w.heap.size 9 i1 (.string ⟨#[]⟩) 1 16 Tryz.underlying22 hi1 hy0 hy1 hy2 rfl (by decide) _ _ _ rfl (HO6.out.alloc _) ⟨w6.heap.size,0,none⟩ 1 1 [.string ra] rfl rfl ?c1 ?c2 (by decide) ?c4 ?c5 ?c6 (w6.heap.size+1) ?c7 ?_)
    case c1=>exact(a07 _ _ _)
    case c2=>intro u hu;simp at hu;subst hu;rfl
    case c4=>unfold maxLen;omega
    case c5=>omega
    case c6=>simp;omega
    case c7=>simp
    intro g9 cap9 w9 hown hgrow hat hlt9;have HP9:=hid (HP6.out.push hgrow hat hlt9);have HB9:=hid (below_append HB6.out hsz6 HO6.out (Nat.le_refl _) hgrow);have HO9:Hid (w9.ownsRow w.heap.size 9 1 (.slice (some ⟨g9,0,none⟩) (k+1) cap9) (k+1) ((a0p askB lines (k+1)).1.map Value.string)):=hid (by rw[HPN.out,List.map_append,HPA.out];exact hown);rw[<-HPB.out]at HP9;clear hown hgrow hat hlt9;go_wp2;go_roundw
    case rel=>exact⟨k+1,by omega,by go_num,HP9,HO9,HB9⟩
    case measure=>simp[intOf];omega
   have hz:(re != 0)=true:=by simpa using h0
   have HPA:Hid (a1M (ra,re)=⟨#[101,114,114,111,114,32]⟩++itoaB re):=hid (by unfold a1M;rw[if_neg h0];rfl);have HD:=hid (fun W=>a1P re W (by have:=HSM.out;omega) (by have:=HSM.out;omega));have hys:(itoaB re).size<=11:=a2G (by have:=HSM.out;omega) (by have:=HSM.out;omega)
   generalize itoaB re=y at *;clear h0;go_wp2_with fail
   refine(HD.out _).mono ?_
   rintro e w7 ⟨rfl,hb7⟩;have HB7:=hid (below_trans HB6.out hb7);have HO7:=hid (own_below HO6.out hb7);have HP7:=hid (HP6.out.below hb7);have hsz7:w.heap.size<=w7.heap.size:=HB7.out.size;clear hb7 hsz6;go_wp2_with (at_builtin;refine wpList_append_lies _ rfl _ _ 22 rfl w.heap.size 9 i1 (.string ⟨#[]⟩) 1 16 Tryz.underlying22 hi1 hy0 hy1 hy2 rfl (by decide) _ _ _ rfl (HO7.out.alloc _) ⟨w7.heap.size,0,none⟩ 1 1 [.string ((⟨#[101,114,114,111,114,32]⟩:ByteArray)++y)] rfl rfl ?c1 ?c2 (by decide) ?c4 ?c5 ?c6 (w7.heap.size+1) ?c7 ?_)
   case c1=>exact(a07 _ _ _)
   case c2=>intro u hu;simp at hu;subst hu;rfl
   case c4=>unfold maxLen;omega
   case c5=>omega
   case c6=>simp;omega
   case c7=>simp
   intro g9 cap9 w9 hown hgrow hat hlt9;have HP9:=hid (HP7.out.push hgrow hat hlt9);have HB9:=hid (below_append HB7.out hsz7 HO7.out (Nat.le_refl _) hgrow);have HO9:Hid (w9.ownsRow w.heap.size 9 1 (.slice (some ⟨g9,0,none⟩) (k+1) cap9) (k+1) ((a0p askB lines (k+1)).1.map Value.string)):=hid (by rw[HPN.out,List.map_append,HPA.out];exact hown);rw[<-HPB.out]at HP9;clear hown hgrow hat hlt9;go_wp2;go_roundw
   case rel=>exact⟨k+1,by omega,by go_num,HP9,HO9,HB9⟩
   case measure=>simp[intOf];omega
  obtain rfl:k=nl:=by omega
  go_wp2;go_ret2;exact⟨_,rfl,by rw[a2O];exact HOK.out,HBK.out⟩
theorem ah9(askB:Book->ByteArray->ByteArray×Int)(hsm:∀b l,0<=(askB b l).2/\(askB b l).2<=1000)(lv:Value)(lines:List ByteArray)(w:World)(hL:StrsW w lv lines)(hl:lines.length<=100)(hsz:∀x∈lines,x.size<=1000000)(hV:Vars w)
  (hask:∀k,k<lines.length->∀P n F b W,n<4->PostAt W P F n b->a08 b->Vars W->Cmd.askO (a02 (a0z (lines.getD k emp)))=true->Calls Tryz.prog 36 #[.pointer (some ⟨P,0,none⟩),.string (a0z (lines.getD k emp))] W (a0t (askB b (a0z (lines.getD k emp))) W)):
  Calls Tryz.prog 17 #[lv] w (a5B (a0p askB lines lines.length).1 w):=by
 obtain⟨i0,hi0,hz0,hz1,hz2⟩:=info_parts Tryz.infoPtr;obtain⟨i1,hi1,hy0,hy1,hy2⟩:=info_parts Tryz.infoStr;have HV:=hid hV;have HVL:=hid (fun j hj=>hV.lt (k:=j) hj);have HASK:=hid hask;have HSZ:=hid hsz;obtain⟨la,lcap,rfl,hq⟩:=hL;have HQ:=hid hq;obtain⟨nl,hnl⟩:∃nl,nl=lines.length:=⟨_,rfl⟩
 have HN:=hid hnl;rw[<-hnl]at hl⊢
 have HLI:Hid (∀k,k<nl->∃b off,la=some ⟨b,off,none⟩/\w.cell? ⟨b,off+k,none⟩=some (.string (lines.getD k emp))):=hid (fun k hk=>by
  obtain⟨b,off,h1,h2⟩:=hq (by omega);exact⟨b,off,h1,h2 k (by omega)⟩)
 clear hnl hV hask hsz hq;go_enter Tryz.func17,Tryz.ntmps17;go_wp2;go_loopw [4,16] (fun o i wr=>∃(k:Nat) (ps:Nat->Pst),k<=4/\i= .int .i64 k/\Hid (Made w k o ps wr)) (fun _ i _=>4-(intOf i).toNat)
 case atStart=>exact⟨0,fun _=>⟨0,[],0,empB⟩,by omega,rfl,hid ⟨World.ownsRow_nil _ _ _ _,Posts.nil HV.out _,fun j hj=>by omega,Below.refl _ _,fun j hj=>by omega⟩⟩
 case round=>
  obtain⟨k,ps,hk,rfl,hm⟩:=hrel;by_cases hlt:k<4
  ·have hlt2:(k:Int)<4:=by omega
   have hrow:=hm.out.row;obtain⟨oa,oc,rfl⟩:=own_shape hrow;have hb1:Below wr.heap.size wr ((wr.alloc (.cells #[.slice none 0 0,.slice none 0 0,.slice none 0 0,.slice none 0 0] 96)).alloc (.cells #[.pointer (some ⟨wr.heap.size,0,none⟩),.int .i64 k] 81)):=((Below.refl _ _).alloc (Nat.le_refl _) _).alloc (by simp) _
   have HNP:=hid (aaA k wr);have HNW:=hid (acN k hlt wr);have hszr:=hm.out.below.size;clear hrow;go_wp2_with fail
   refine HNW.out.mono ?_;rintro e w1 ⟨rfl,hw1⟩;rw[<-hw1]at hb1 HNP;have HO1:=hid (own_below hm.out.row hb1);have HB1:=hid hb1;have hsz2:w.heap.size<=w1.heap.size:=Nat.le_trans hszr hb1.size;clear hw1 hb1;go_wp2_with (at_builtin;refine wpList_append_own _ rfl _ _ 31 rfl w.heap.size 33 i0 (.pointer none) 1 8 Tryz.underlying31 hi0 hz0 hz1 hz2 rfl (by decide) _ _ _ rfl (HO1.out.alloc _) ⟨w1.heap.size,0,none⟩ 1 1 [.pointer (some ⟨wr.heap.size+1,0,none⟩)] rfl rfl ?c1 ?c2 ?c3 ?c4 ?c5 ?_)
   case c1=>exact(a07 _ _ _)
   case c2=>intro u hu;simp at hu;subst hu;rfl
   case c3=>unfold maxLen;omega
   case c4=>omega
   case c5=>simp;omega
   intro v' w2 hown' hgrow _;have HM:=hid (hm.out.next HVL.out (p:=⟨wr.heap.size+1,[wr.heap.size+1,wr.heap.size],k,empB⟩) HNP.out (fun g hg=>.inr (by simp at hg;omega)) HB1.out ⟨rfl,rfl⟩ hown' hgrow);clear hown' hgrow;go_wp2;go_roundw
   case rel=>exact⟨k+1,_,by omega,by go_num,HM⟩
   case measure=>simp[intOf];omega
  have e:k=4:=by omega
  subst e;rw[show ((4:Nat):Int)=4 from rfl];have hrow:=hm.out.row;obtain⟨S,cap,cur,hos,_,hScur,_⟩:=hrow.2.resolve_left (fun h=>by simp at h);subst hos
  have HP0:Hid (Played askB lines w S 0 cur (.slice none 0 0) ps wr):=hid (by
   refine⟨World.ownsRow_nil _ _ _ _,⟨hm.out.posts,fun j hj=>?_,fun hmm=>?_,fun j hj=>?_,fun j hj=>(hm.out.news j hj).1⟩,fun j hj=>(hm.out.news j hj).2,hm.out.below,hScur,fun g hg=>?_⟩
   ·have h9:=hrow.cellAt j (by omega);rw[h9,acX ps hj]
   ·obtain⟨i,hi,hmm⟩:=mem_U.1 hmm;exact(hm.out.posts.post i hi).not_own hrow a6t hmm rfl
   ·rw[(hm.out.news j hj).2];exact a8X
   obtain⟨i,hi,hg⟩:=mem_U.1 hg;exact hm.out.fresh i hi g hg)
  clear hrow hScur;go_wp2;obtain⟨wo,hwo⟩:∃wo,wo=wr:=⟨_,rfl⟩
  subst hwo;go_loopw [8,31] (fun o i wr=>∃(k:Nat) (ps:Nat->Pst),k<=nl/\i= .int .i64 k/\Hid (Played askB lines w S k cur o ps wr)) (fun _ i _=>nl-(intOf i).toNat)
  case atStart=>exact⟨0,_,Nat.zero_le _,rfl,HP0⟩
  case round=>
   obtain⟨k,ps,hk,rfl,hp⟩:=hrel;have hrow:=hp.out.row;obtain⟨oa,oc,rfl⟩:=own_shape hrow;clear hrow;by_cases hlt:k<nl
   ·obtain⟨lb,loff,rfl,hc0⟩:=HLI.out k hlt;have hc:=keep_cell hp.out.below hc0;have hxs:=HSZ.out (lines.getD k emp) (by rw[List.getD_eq_getElem?_getD,List.getElem?_eq_getElem (by rw[<-HN.out];exact hlt)];exact List.getElem_mem _);have hszr:=hp.out.below.size;have HD:=hid (ab0 askB (lines.getD k emp) hxs wr S cap ps hp.out.posts (fun i W hi _ hq hb=>HASK.out k (by rw[<-HN.out];exact hlt) _ i _ _ W hi (by have h9:=(hp.out.posts.below hb).posts.post i hi;rw[hp.out.posts.num i hi]at h9;exact h9) (hp.out.posts.ok i hi) (hp.out.posts.posts.vars.below hb) hq));have HER:=hid (a9D askB hsm (fun j=>(ps j).b) (lines.getD k emp));have HNXT:=hid (fun w1 w1' w2 v' ob (hT:Turn wr S ps (a12 askB (fun j=>(ps j).b) (lines.getD k emp)).2 w1) (hb1:Below w1.heap.size w1 w1') hrow hg=>hp.out.next HVL.out (w1:=w1) (w1':=w1') (w2:=w2) (v':=v') (ob:=ob) hT hb1 hrow hg);have hpl:=a2O askB lines k;unfold a7r at HD;generalize lines.getD k emp=x at *;generalize a12 askB (fun j=>(ps j).b) x=r at *;obtain⟨⟨ra,re⟩,rb⟩:=r;simp only at HER;clear hc0;by_cases hz:re=0
    ·subst hz;go_wp2_with fail
     refine HD.out.mono ?_;rintro e w1 ⟨rfl,hT⟩;have HT:=hid hT
     have HO1:Hid (w1.ownsRow w.heap.size 9 1 (.slice oa k oc) k ((a0p askB lines k).1.map Value.string)):=hid (by
      obtain⟨ps',h1,h2,h3,h4⟩:=hT.ex
      exact a0m hp.out.row fun g hg0=>h4.block g (hp.out.row.lt g hg0).2 fun hm=>by
       obtain⟨i,hi,hm⟩:=mem_U.1 hm;exact(hp.out.posts.posts.post i hi).not_own hp.out.row a2Y hm hg0)
     have hsz2:w.heap.size<=w1.heap.size:=by obtain⟨ps',h1,h2,h3,h4⟩:=hT.ex;have:=h4.size;omega
     clear hT;go_wp2_with (at_builtin;refine wpList_append_own _ rfl _ _ 22 rfl w.heap.size 9 i1 (.string ⟨#[]⟩) 1 16 Tryz.underlying22 hi1 hy0 hy1 hy2 rfl (by decide) _ _ _ rfl (HO1.out.alloc _) ⟨w1.heap.size,0,none⟩ 1 1 [.string ra] rfl rfl ?c1 ?c2 ?c3 ?c4 ?c5 ?_)
     case c1=>exact(a07 _ _ _)
     case c2=>intro u hu;simp at hu;subst hu;rfl
     case c3=>unfold maxLen;omega
     case c4=>omega
     case c5=>simp;omega
     intro v' w2 hown' hgrow _;have HM:=hid (HNXT.out _ _ w2 v' _ HT.out (Below.refl _ _) hown' hgrow);obtain⟨psn,h9⟩:=HM.out;have HMN:=hid h9;clear hown' hgrow HM h9;go_wp2;go_roundw
     case rel=>exact⟨k+1,psn,by omega,by go_num,HMN⟩
     case measure=>simp[intOf];omega
    have z0:(re != 0)=true:=by simpa using hz
    go_wp2_with fail
    refine HD.out.mono ?_;rintro e w1 ⟨rfl,hT⟩;have HV1:Hid (Vars w1):=hid (by obtain⟨ps',h1,_⟩:=hT.ex;exact h1.posts.vars);have HT:=hid hT
    have HO1:Hid (w1.ownsRow w.heap.size 9 1 (.slice oa k oc) k ((a0p askB lines k).1.map Value.string)):=hid (by
     obtain⟨ps',h1,h2,h3,h4⟩:=hT.ex
     exact a0m hp.out.row fun g hg0=>h4.block g (hp.out.row.lt g hg0).2 fun hm=>by
      obtain⟨i,hi,hm⟩:=mem_U.1 hm;exact(hp.out.posts.posts.post i hi).not_own hp.out.row a2Y hm hg0)
    have hsz2:w.heap.size<=w1.heap.size:=by obtain⟨ps',h1,h2,h3,h4⟩:=hT.ex;have:=h4.size;omega
    have HI:=hid (itoa_any re (by have:=HER.out;omega) (by have:=HER.out;omega) w1 HV1.out);have HPA:Hid (a1M (ra,re)=(⟨#[101,114,114,111,114,32]⟩:ByteArray)++itoaB re):=hid (by unfold a1M errW;rw[if_neg hz])
    have hadd:¬9223372036854775807<6+(itoaB re).size:=by
     have h9:=a3W (n:=re) HER.out.1 (by have:=HER.out;omega);rw[a03,show (itoaB re).data.toList=Lib.itoa re from rfl];omega
    rw[HPA.out]at HNXT;clear hT;go_wp2_with fail
    refine HI.out.mono ?_;rintro e w3 ⟨rfl,hb3⟩;have HO3:=hid (own_below HO1.out hb3);have hsz3:w.heap.size<=w3.heap.size:=Nat.le_trans hsz2 hb3.size;have HB3:=hid hb3;clear hb3;go_wp2_with (at_builtin;refine wpList_append_own _ rfl _ _ 22 rfl w.heap.size 9 i1 (.string ⟨#[]⟩) 1 16 Tryz.underlying22 hi1 hy0 hy1 hy2 rfl (by decide) _ _ _ rfl (HO3.out.alloc _) ⟨w3.heap.size,0,none⟩ 1 1 [.string ((⟨#[101,114,114,111,114,32]⟩:ByteArray)++itoaB re)] rfl rfl ?c1 ?c2 ?c3 ?c4 ?c5 ?_)
    case c1=>exact(a07 _ _ _)
    case c2=>intro u hu;simp at hu;subst hu;rfl
    case c3=>unfold maxLen;omega
    case c4=>omega
    case c5=>simp;omega
    intro v' w2 hown' hgrow _;have HM:=hid (HNXT.out _ _ w2 v' _ HT.out HB3.out hown' hgrow);obtain⟨psn,h9⟩:=HM.out;have HMN:=hid h9;clear hown' hgrow HM h9;go_wp2;go_roundw
    case rel=>exact⟨k+1,psn,by omega,by go_num,HMN⟩
    case measure=>simp[intOf];omega
   have e:k=nl:=by omega
   subst e;have HR:=hid hp.out.row;have HBE:=hid hp.out.below;have hpl:=a2O askB lines k;go_wp2;go_ret2;exact⟨_,rfl,by rw[hpl];exact HR.out,HBE.out⟩
end Go.Proofs.YtdfkaijeppdhaaaGreatDoor
