/- Texts of this claim, laid together: Lp. -/
import Derived.Test.YtdfkaijeppdhaaaGreatDoorZHp45
import Derived.Test.YtdfkaijeppdhaaaGreatDoorZHp27

set_option maxRecDepth 100000
set_option maxHeartbeats 8000000
set_option linter.unusedSimpArgs false
set_option linter.unusedVariables false

namespace Go.Proofs.YtdfkaijeppdhaaaGreatDoor
open Go.RowKit Go.Shelf
open Lib (hid)
theorem aeY(x:ByteArray):(a0z x).size<=x.size:=by
 rw[abL,bsB_size,a03];exact(a2Q _).2
theorem aha(lv:Value)(lines:List ByteArray)(w:World)(hL:StrsW w lv lines)(hl:100<lines.length):
  Calls Tryz.prog 17 #[lv] w fun e w'=>e= .returned (.tuple #[.slice none 0 0,.int .i64 4])/\Below w.heap.size w w':=by
 obtain⟨la,lcap,rfl,_⟩:=hL;have hl2:(100:Int)<(lines.length:Int):=by omega
 go_enter Tryz.func17,Tryz.ntmps17;go_wp2;go_ret2;exact⟨rfl,Below.refl _ _⟩
theorem aeZ(lv:Value)(lines:List ByteArray)(w:World)(hL:StrsW w lv lines)(hl:100<lines.length):
  Calls Tryz.prog 18 #[lv] w fun e w'=>e= .returned (.tuple #[.slice none 0 0,.int .i64 4])/\Below w.heap.size w w':=by
 obtain⟨la,lcap,rfl,_⟩:=hL;have hl2:(100:Int)<(lines.length:Int):=by omega
 go_enter Tryz.func18,Tryz.ntmps18;go_wp2;go_ret2;exact⟨rfl,Below.refl _ _⟩
theorem PostPlays_walk(v:Value)(lines:List ByteArray)(w:World)(hL:StrsIn w v lines)(hV:Vars w):Calls Tryz.prog 3 #[v] w (a5m true w):=by
 have HVR:=hid hV;have HL40:=hid (aby v lines 40 w hL);have HL300:=hid (fun W (hW:Below w.heap.size w W)=>aby v lines 300 W (hL.below hW));have HAT:=hid (fun W (hW:Below w.heap.size w W)=>hL.at_.below hW);obtain⟨la,lc,rfl,hc⟩:=hL.at_;obtain⟨nl,hnl⟩:∃nl,nl=lines.length:=⟨_,rfl⟩
 have HN:=hid hnl;rw[<-hnl]at HL40 HL300 HAT⊢;clear hc hL hV hnl;cases h40:a3b lines 40 with
 | true=>
  rw[h40]at HL40;by_cases h100:nl<=100
  ·have h100i:(nl:Int)<=100:=by omega
   clear h40 h100;go_enter Tryz.func3,Tryz.ntmps3;go_wp2_with fail
   refine HL40.out.mono ?_;rintro e w1 ⟨rfl,hb1⟩;have HB1:=hid hb1;clear hb1;go_wp2_with fail
   refine(a4i _ (HVR.out.below HB1.out)).mono ?_
   rintro e w9 ⟨rfl,hb9⟩;have HB9:=hid (below_trans HB1.out hb9);clear hb9;go_wp2;go_ret;exact⟨rfl,HB9.out⟩
  have h100i:¬(nl:Int)<=100:=by omega
  have HPL:=hid (fun W (hW:Below w.heap.size w W)=>aha _ lines W (HAT.out W hW) (by have:=HN.out;omega));have HRP:=hid (fun W (hW:Below w.heap.size w W)=>aeZ _ lines W (HAT.out W hW) (by have:=HN.out;omega));cases h300:a3b lines 300 with
  |true=>
   rw[h300]at HL300;clear h40 h100 h300;go_enter Tryz.func3,Tryz.ntmps3;go_wp2_with fail
   refine HL40.out.mono ?_;rintro e w1 ⟨rfl,hb1⟩;have HB1:=hid hb1;clear hb1;go_wp2_with fail
   refine(HL300.out _ HB1.out).mono ?_
   rintro e w2 ⟨rfl,hb1⟩;have HB1:=hid (below_trans HB1.out hb1);clear hb1;go_wp2_with fail
   refine(a4i _ (HVR.out.below HB1.out)).mono ?_
   rintro e w9 ⟨rfl,hb9⟩;have HB9:=hid (below_trans HB1.out hb9);clear hb9;go_wp2;go_ret;exact⟨rfl,HB9.out⟩
  |false=>
   rw[h300]at HL300;clear h40 h100 h300;go_enter Tryz.func3,Tryz.ntmps3;go_wp2_with fail
   refine HL40.out.mono ?_;rintro e w1 ⟨rfl,hb1⟩;have HB1:=hid hb1;clear hb1;go_wp2_with fail
   refine(HL300.out _ HB1.out).mono ?_
   rintro e w2 ⟨rfl,hb1⟩;have HB1:=hid (below_trans HB1.out hb1);clear hb1;go_wp2_with fail
   refine(HPL.out _ HB1.out).mono ?_
   rintro e w3 ⟨rfl,hb3⟩;have HB3:=hid (below_trans HB1.out hb3);clear hb3;go_wp2_with fail
   refine(HRP.out _ HB3.out).mono ?_
   rintro e w4 ⟨rfl,hb4⟩;have HB4:=hid (below_trans HB3.out hb4);clear hb4;have HSM:=hid (a6v (.slice none 0 0) (.slice none 0 0) [] [] (by simp) w4 ⟨none,0,rfl,fun h=>absurd h (by simp)⟩ ⟨none,0,rfl,fun h=>absurd h (by simp)⟩);simp only[decide_true]at HSM;go_wp2_with fail
   refine HSM.out.mono ?_;rintro e w5 ⟨rfl,hb5⟩;have HB5:=hid (below_trans HB4.out hb5);clear hb5;go_wp2_with fail
   refine(a4i _ (HVR.out.below HB5.out)).mono ?_
   rintro e w9 ⟨rfl,hb9⟩;have HB9:=hid (below_trans HB5.out hb9);clear hb9;go_wp2;go_ret;exact⟨rfl,HB9.out⟩
 | false=>
  rw[h40]at HL40;obtain⟨hsz,hlen⟩:=ai8 h40
  have HPL:=hid (fun W (hW:Below w.heap.size w W)=>ah9 askB aaf _ lines W (HAT.out W hW) (by omega) (fun x hx=>by have:=hsz x hx;omega) (HVR.out.below hW) (fun k hk P n F b W' _ hP hok hVW _=>ajp P n F b _ (by
   have h1:=aeY (lines.getD k emp);have h2:=hsz (lines.getD k emp) (by rw[List.getD_eq_getElem?_getD,List.getElem?_eq_getElem hk];exact List.getElem_mem _);omega) W' hP hok hVW))
  have HRP:=hid (fun W (hW:Below w.heap.size w W)=>ah8 _ lines W (HAT.out W hW) (by omega) (fun x hx=>by have:=hsz x hx;omega));have HLL:Hid ((a0p askB lines lines.length).1.length<=1000000):=hid (by rw[a2O];omega);unfold a5B at HPL HRP;generalize (a0p askB lines lines.length).1=L at *
  clear hsz hlen;cases h300:a3b lines 300 with
  |true=>
   rw[h300]at HL300;clear h40 h300;go_enter Tryz.func3,Tryz.ntmps3;go_wp2_with fail
   refine HL40.out.mono ?_;rintro e w1 ⟨rfl,hb1⟩;have HB1:=hid hb1;clear hb1;go_wp2_with fail
   refine(HL300.out _ HB1.out).mono ?_
   rintro e w2 ⟨rfl,hb1⟩;have HB1:=hid (below_trans HB1.out hb1);clear hb1;go_wp2_with fail
   refine(a4i _ (HVR.out.below HB1.out)).mono ?_
   rintro e w9 ⟨rfl,hb9⟩;have HB9:=hid (below_trans HB1.out hb9);clear hb9;go_wp2;go_ret;exact⟨rfl,HB9.out⟩
  |false=>
   rw[h300]at HL300;clear h40 h300;go_enter Tryz.func3,Tryz.ntmps3;go_wp2_with fail
   refine HL40.out.mono ?_;rintro e w1 ⟨rfl,hb1⟩;have HB1:=hid hb1;clear hb1;go_wp2_with fail
   refine(HL300.out _ HB1.out).mono ?_
   rintro e w2 ⟨rfl,hb1⟩;have HB1:=hid (below_trans HB1.out hb1);clear hb1;go_wp2_with fail
   refine(HPL.out _ HB1.out).mono ?_
   rintro e w3 ⟨v3,rfl,ho3,hb3⟩;have HB3:=hid (below_trans HB1.out hb3);have HO3:=hid ho3;clear hb3 ho3;go_wp2_with fail
   refine(HRP.out _ HB3.out).mono ?_
   rintro e w4 ⟨v4,rfl,ho4,hb4⟩;have HB4:=hid (below_trans HB3.out hb4);have HSM:=hid (a6v v3 v4 L L HLL.out w4 (a6u (own_below HO3.out hb4)) (a6u ho4));simp only[decide_true]at HSM;clear hb4 ho4;go_wp2_with fail
   refine HSM.out.mono ?_;rintro e w5 ⟨rfl,hb5⟩;have HB5:=hid (below_trans HB4.out hb5);clear hb5;go_wp2_with fail
   refine(a4i _ (HVR.out.below HB5.out)).mono ?_
   rintro e w9 ⟨rfl,hb9⟩;have HB9:=hid (below_trans HB5.out hb9);clear hb9;go_wp2;go_ret;exact⟨rfl,HB9.out⟩
end Go.Proofs.YtdfkaijeppdhaaaGreatDoor
