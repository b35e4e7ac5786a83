/- Texts of this claim, laid together: Ug, Ua, Ub, Sa. -/
import Derived.Test.YtdfkaijeppdhaaaGreatDoorZHp11
import Derived.Test.YtdfkaijeppdhaaaGreatDoorZHp36
import Derived.Test.YtdfkaijeppdhaaaGreatDoorZHp27
import Derived.Test.YtdfkaijeppdhaaaGreatDoorZHp30

set_option maxRecDepth 100000
set_option maxHeartbeats 8000000
set_option linter.unusedSimpArgs false
set_option linter.unusedVariables false

namespace Go.Proofs.YtdfkaijeppdhaaaGreatDoor
open Go
theorem a7D:∀l:List UInt8,Lib.cut l [32]=cutR l
 |[]=>by simp[Lib.cut,Lib.index,cutR]
 | b::r=>by
  have ih:=a7D r;unfold Lib.cut at ih⊢;by_cases hb:b=32
  ·subst hb;have h0:Lib.index (32::r) [32]=0:=by rw[Lib.index];simp[List.isPrefixOf]
   rw[h0];simp[cutR]
  have hp:([32]:List UInt8).isPrefixOf (b::r)=false:=by simp[List.isPrefixOf,Ne.symm hb]
  have hix:Lib.index (b::r) [32]=if Lib.index r [32]== -1 then-1 else Lib.index r [32]+1:=by rw[Lib.index,hp];simp
  have hge:=Lib.index_ge r [32];have hb2:(b==32)=false:=by simpa using hb
  by_cases hm:Lib.index r [32]= -1
  ·rw[hm]at ih;rw[hix,hm];simp only[show¬(0:Int)<= -1 by decide,if_false]at ih;simp[cutR,hb2,<-ih]
  obtain⟨j,hj⟩:∃j:Nat,Lib.index r [32]=j:=⟨(Lib.index r [32]).toNat,by omega⟩
  have hix':Lib.index (b::r) [32]=((j+1:Nat):Int):=by rw[hix,if_neg (fun e=>hm (beq_iff_eq.1 e)),hj];omega
  rw[hj,if_pos (by omega)]at ih;rw[hix',if_pos (by omega)];simp only[cutR,hb2,<-ih,Int.toNat_natCast];simp[Nat.add_right_comm]
theorem agK(line:ByteArray):a3G line=bsB (cutR line.data.toList).1:=by unfold a3G;rw[a7D];rfl
theorem abL(line:ByteArray):a0z line=bsB (cutR line.data.toList).2.1:=by unfold a0z;rw[a7D];rfl
def a3N:List UInt8:=[106,111,105,110]
theorem a4E(s:ByteArray):a1X s=(decide ((cutR s.data.toList).1=a3N)&&(cutR s.data.toList).2.2):=by
 rw[Bool.eq_iff_iff,Bool.and_eq_true,decide_eq_true_eq];unfold a1X Lib.hasPrefix;rw[List.isPrefixOf_iff_prefix];constructor
 ·rintro⟨t,ht⟩;rw[<-ht,show aaw++t=a3N++32::t from rfl,a6x _ _ (by decide)];exact⟨rfl,rfl⟩
 rintro⟨h1,h2⟩;have:=aaC h2;rw[h1]at this;exact⟨_,this.symm⟩
theorem agL{s:ByteArray}(h:a1X s=true):a2l s=bsB (cutR s.data.toList).2.1:=by
 have h9:=h;rw[a4E,Bool.and_eq_true,decide_eq_true_eq]at h9;have:=aaC h9.2;rw[h9.1]at this;unfold a2l Lib.trimPrefix;rw[show Lib.hasPrefix s.data.toList aaw=true from h,if_pos rfl];conv=>lhs;rw[this]
 rfl
theorem aa3(s:ByteArray):a1r s=match natR s.data.toList 1 with
 |some v=>if v<=3 then some v else none
 |none=>none:=by
 cases hn:natR s.data.toList 1 with
 | some v=>
  have h4:natR s.data.toList 4=some v/\s.data.toList.all a1q=true/\s.data.toList≠[]:=by
   unfold natR at hn⊢;split at hn
   ·cases hn
   rename_i hc
   rw[if_neg (by omega)];split at hn
   ·rename_i hd
    rw[if_pos hd];exact⟨hn,hd,fun e=>by rw[e]at hc;simp at hc⟩
   cases hn
  have hnum:numV s=some (v:Int):=by
   rw[<-a4b];unfold numR;split
   ·rename_i r hr
    rw[hr]at h4;have:=h4.2.1;simp[a1q]at this
   rw[h4.1];rfl
  simp only;by_cases hv:v<=3
  ·rw[if_pos hv,a7s hnum (by rw[betw_iff];omega)];rfl
  rw[if_neg hv,a6c hnum (by rw[a4O];omega)]
 | none=>
  cases hp:a1r s with
  |none=>rfl
  | some n=>
   obtain⟨h1,h2⟩:=a5n hp;have h3:=(a2h h1).1
   rw[h3]at hn;rcases (show n=0\/n=1\/n=2\/n=3 by omega)with rfl|rfl|rfl|rfl
   ·have e:natR (itoaB ((0:Nat):Int)).data.toList 1=some 0:=by kernel_rfl
    rw[e]at hn;cases hn
   ·have e:natR (itoaB ((1:Nat):Int)).data.toList 1=some 1:=by kernel_rfl
    rw[e]at hn;cases hn
   ·have e:natR (itoaB ((2:Nat):Int)).data.toList 1=some 2:=by kernel_rfl
    rw[e]at hn;cases hn
   have e:natR (itoaB ((3:Nat):Int)).data.toList 1=some 3:=by kernel_rfl
   rw[e]at hn;cases hn
theorem adi{b:Book}{n:Nat}{line:ByteArray}(h:Cmd.deedO (a02 line)=true):(doB b n line).2.1≠100:=by
 unfold doB;cases hc:a02 line with
 |none=>rw[hc]at h;cases h
 |some c=>
  have hd:c.deed=true:=by rw[hc]at h;exact h
  simp only;rw[if_neg (by rw[hd];decide)];split
  ·simp
  split
  ·simp
  cases c<;>simp[sayB]
  split<;>simp
theorem agM{b:Book}{n:Nat}{line:ByteArray}(h:Cmd.deedO (a02 line)=false):doB b n line=(emp,100,b):=by
 unfold doB;cases hc:a02 line with
 |none=>rfl
 |some c=>
  have hd:c.deed=false:=by rw[hc]at h;exact h
  simp only;rw[if_pos hd]
theorem ajs{b:Book}{line:ByteArray}(h:Cmd.askO (a02 line)=false):askB b line=(emp,100):=by
 unfold askB;cases hc:a02 line with
 |none=>rfl
 |some c=>
  rw[hc]at h;cases c<;>first|rfl|cases h
def a54(bs:Nat->Book)(n:Nat)(rest:ByteArray):(ByteArray×Int)×(Nat->Book):=
 if (cutR rest.data.toList).1=a3N then (match natR (cutR rest.data.toList).2.1 1 with
  |some k=>if k<=3 then ((if (a0x (bs n) (bs k)).1=0 then itoaB (lenB (a0x (bs n) (bs k)).2:Int)else emp,(a0x (bs n) (bs k)).1),setN bs n (a0x (bs n) (bs k)).2)else ((emp,100),bs)
  |none=>((emp,100),bs))
 else if (doB (bs n) n rest).2.1=100 then (askB (bs n) rest,bs)
 else (((doB (bs n) n rest).1,(doB (bs n) n rest).2.1),setN bs n (doB (bs n) n rest).2.2)
def a1Y(bs:Nat->Book)(line:ByteArray):(ByteArray×Int)×(Nat->Book):=match natR (cutR line.data.toList).1 1 with
 |some n=>if (cutR line.data.toList).2.2=true/\n<=3 then a54 bs n (bsB (cutR line.data.toList).2.1)else ((emp,100),bs)
 |none=>((emp,100),bs)
theorem aeE:a02 (bsB a3N)=none:=by kernel_rfl
theorem agN:a02 (bsB [])=none:=by kernel_rfl
theorem agO(bs:Nat->Book)(n:Nat)(rest:ByteArray):a1M (a54 bs n rest).1=a1M (if a1X rest then (match a1r (a2l rest)with
   |none=>((emp,100),bs)
   |some k=>((itoaB (lenB (a0x (bs n) (bs k)).2:Int),(a0x (bs n) (bs k)).1),setN bs n (a0x (bs n) (bs k)).2))
  else if Cmd.deedO (a02 rest)then (((doB (bs n) n rest).1,(doB (bs n) n rest).2.1),setN bs n (doB (bs n) n rest).2.2)
  else if Cmd.askO (a02 rest)then (askB (bs n) rest,bs)
  else ((emp,100),bs)).1/\(a54 bs n rest).2=(if a1X rest then (match a1r (a2l rest)with
   |none=>((emp,100),bs)
   |some k=>((itoaB (lenB (a0x (bs n) (bs k)).2:Int),(a0x (bs n) (bs k)).1),setN bs n (a0x (bs n) (bs k)).2))
  else if Cmd.deedO (a02 rest)then (((doB (bs n) n rest).1,(doB (bs n) n rest).2.1),setN bs n (doB (bs n) n rest).2.2)
  else if Cmd.askO (a02 rest)then (askB (bs n) rest,bs)
  else ((emp,100),bs)).2:=by
 unfold a54;by_cases hj:(cutR rest.data.toList).1=a3N
 ·rw [if_pos hj];cases hq:(cutR rest.data.toList).2.2 with
  | true=>
   have hi:a1X rest=true:=by rw[a4E,hq,decide_eq_true hj];rfl
   rw[hi,agL hi,aa3,a0N];cases natR (cutR rest.data.toList).2.1 1 with
   |none=>exact⟨rfl,rfl⟩
   | some k=>
    simp only[if_true];by_cases hk:k<=3
    ·rw[if_pos hk,if_pos hk];refine⟨?_,rfl⟩;unfold a1M;simp only;by_cases h0:(a0x (bs n) (bs k)).1=0
     ·rw[if_pos h0,if_pos h0,if_pos h0]
     rw[if_neg h0,if_neg h0]
    rw[if_neg hk,if_neg hk];exact⟨rfl,rfl⟩
  |false=>
   have hi:a1X rest=false:=by rw[a4E,hq,Bool.and_false]
   obtain⟨h1,h2⟩:=a2U hq;have hr:rest=bsB a3N:=by rw[<-hj,h1,a3C]
   rw[hi,h2,hr,aeE];exact⟨rfl,rfl⟩
 rw[if_neg hj];have hi:a1X rest=false:=by rw[a4E,decide_eq_false hj];rfl
 rw[hi];simp only[Bool.false_eq_true,if_false];cases hd:Cmd.deedO (a02 rest)with
 |true=>
  rw[if_neg (adi hd)];exact⟨rfl,rfl⟩
 | false=>
  rw[agM hd,if_pos rfl];cases ha:Cmd.askO (a02 rest)with
  |true=>exact⟨rfl,rfl⟩
  |false=>
   rw[ajs ha];exact⟨rfl,rfl⟩
theorem agP(bs:Nat->Book)(line:ByteArray):a1M (a1Y bs line).1=a1M (a12 askB bs line).1/\(a1Y bs line).2=(a12 askB bs line).2:=by
 unfold a1Y a12;rw[agK,aa3,a0N,abL];cases natR (cutR line.data.toList).1 1 with
 |none=>exact⟨rfl,rfl⟩
 | some n=>
  simp only;by_cases hn:n<=3
  ·rw[if_pos hn];simp only;cases hq:(cutR line.data.toList).2.2 with
   |true=>
    rw[if_pos ⟨rfl,hn⟩];exact agO bs n _
   |false=>
    rw[if_neg (by simp),(a2U hq).2];have hi:a1X (bsB [])=false:=by kernel_rfl
    rw[hi,agN];exact⟨rfl,rfl⟩
  rw[if_neg hn,if_neg (fun h=>hn h.2)];exact⟨rfl,rfl⟩
end Go.Proofs.YtdfkaijeppdhaaaGreatDoor
namespace Go.Proofs.YtdfkaijeppdhaaaGreatDoor
open Go.RowKit Go.Shelf
open Lib (hid)
theorem aeF(c:UInt8):a3d c=true↔97<=c.toNat/\c.toNat<=104:=by
 unfold a3d peaksL;simp only[List.contains_cons,List.contains_nil,Bool.or_false,Bool.or_eq_true,beq_iff_eq];have h:∀n:Nat,n<256->(c=UInt8.ofNat n↔c.toNat=n):=fun n hn=>u8_eq hn;rw[show (97:UInt8)=UInt8.ofNat 97 from rfl,show (98:UInt8)=UInt8.ofNat 98 from rfl,show (99:UInt8)=UInt8.ofNat 99 from rfl,show (100:UInt8)=UInt8.ofNat 100 from rfl,show (101:UInt8)=UInt8.ofNat 101 from rfl,show (102:UInt8)=UInt8.ofNat 102 from rfl,show (103:UInt8)=UInt8.ofNat 103 from rfl,show (104:UInt8)=UInt8.ofNat 104 from rfl];rw[h 97 (by omega),h 98 (by omega),h 99 (by omega),h 100 (by omega),h 101 (by omega),h 102 (by omega),h 103 (by omega),h 104 (by omega)];omega
theorem a6D(s:ByteArray):a1m s=(decide (s.size<=20)&&s.data.toList.all a3d):=by unfold a1m;rw[aeA]
theorem a8I{s:ByteArray}{k:Nat}(hk:k<s.size)(h:a3d s[k]=false):a1m s=false:=by
 rw[a6D]
 have:s.data.toList.all a3d=false:=by
  rw[<-List.take_append_drop k s.data.toList,drop_byte hk];simp[h]
 rw[this,Bool.and_false]
theorem rValid_any(s:ByteArray)(w:World)(hs:s.size<=1000000):Calls Tryz.prog 180 #[.string s] w (Bool1 (a1m s) w):=by
 by_cases h20:s.size<=20
 ·have h20i:¬(20:Int)<(s.size:Int):=by omega
  have HT0:Hid ((s.data.toList.take 0).all a3d=true):=hid (by simp);go_enter Tryz.func180,Tryz.ntmps180;go_wp2;go_loopw [9] (fun i wr=>∃k:Nat,k<=s.size/\i= .int .i64 k/\Hid ((s.data.toList.take k).all a3d=true)/\wr=w) (fun i _=>s.size-(intOf i).toNat)
  case atStart=>exact⟨0,by omega,rfl,HT0,rfl⟩
  case round=>
   obtain⟨k,hk,rfl,HT,rfl⟩:=hrel;by_cases hlt:k<s.size
   ·have hlt2:(k:Int)<(s.size:Int):=by omega
    have HI:=hid (aeF s[k]);by_cases h97:s[k].toNat<97
    ·have h97i:(s[k].toNat:Int)<97:=by omega
     have HB:=hid (a8I hlt (by rw[<-Bool.not_eq_true,HI.out];omega));clear h97;go_wp2;go_ret;exact⟨by rw[HB.out];rfl,rfl⟩
    have h97i:¬(s[k].toNat:Int)<97:=by omega
    by_cases h104:104<s[k].toNat
    ·have h104i:(104:Int)<(s[k].toNat:Int):=by omega
     have HB:=hid (a8I hlt (by rw[<-Bool.not_eq_true,HI.out];omega));clear h97 h104;go_wp2;go_ret;exact⟨by rw[HB.out];rfl,rfl⟩
    have h104i:¬(104:Int)<(s[k].toNat:Int):=by omega
    have HT2:Hid ((s.data.toList.take (k+1)).all a3d=true):=hid (by
     rw[a2Z hlt,List.all_append,HT.out];simp only[List.all_cons,List.all_nil,Bool.and_true,Bool.true_and];rw[HI.out];omega)
    clear h97 h104;go_wp2;go_roundw
    case rel=>exact⟨k+1,by omega,by go_num,HT2,trivial⟩
    case measure=>simp[intOf];omega
   obtain rfl:k=s.size:=by omega
   have HB:Hid (a1m s=true):=hid (by
    have:=HT.out;rw[List.take_of_length_le (by rw[<-a03];omega)]at this;rw[a6D,this,decide_eq_true h20];rfl)
   go_wp2;go_ret;exact⟨by rw[HB.out];rfl,rfl⟩
 have h20i:(20:Int)<(s.size:Int):=by omega
 have HB:Hid (a1m s=false):=hid (by rw[a6D,decide_eq_false h20];rfl);go_enter Tryz.func180,Tryz.ntmps180;go_wp2;go_ret;exact⟨by rw[HB.out];rfl,rfl⟩
theorem aeG(w:World):Calls Tryz.prog 181 #[.agg #[.int .i64 1,.int .i64 1]] w fun e w'=>e= .returned (.bool true)/\Below w.heap.size w w':=by
 go_enter Tryz.func181,Tryz.ntmps181;go_wp2;go_ret;exact⟨rfl,(Below.refl _ _).alloc (Nat.le_refl _) _⟩
theorem rasked_any(s t:ByteArray)(hs:s.size<=1000000)(ht:t.size<=1000000)(w:World):Calls Tryz.prog 137 #[.string s,.string t,.agg #[.int .i64 1,.int .i64 1]] w fun e w'=>e= .returned (.int .i64 (farE s t))/\Below w.heap.size w w':=by
 have HS:=hid (fun W=>rValid_any s W hs);have HT:=hid (fun W=>rValid_any t W ht);have hb1:Below w.heap.size w (w.alloc (.cells #[.int .i64 1,.int .i64 1] 176)):=(Below.refl _ _).alloc (Nat.le_refl _) _
 have HB1:=hid hb1;have HC:=hid (aeG (w.alloc (.cells #[.int .i64 1,.int .i64 1] 176)));clear hb1;unfold farE a3e;cases h1:a1m s with
 |false=>
  rw[h1]at HS;simp only[Bool.false_and,Bool.false_eq_true,if_false];clear h1;go_enter Tryz.func137,Tryz.ntmps137;go_wp2_with fail
  refine(HS.out _).mono ?_
  rintro e w2 ⟨rfl,rfl⟩;go_wp2;go_ret;exact⟨rfl,HB1.out⟩
 | true=>
  rw[h1]at HS;clear h1;cases h2:a1m t with
  |false=>
   rw[h2]at HT;simp only[Bool.and_false,Bool.false_eq_true,if_false];clear h2;go_enter Tryz.func137,Tryz.ntmps137;go_wp2_with fail
   refine(HS.out _).mono ?_
   rintro e w2 ⟨rfl,rfl⟩;go_wp2_with fail
   refine(HT.out _).mono ?_
   rintro e w2 ⟨rfl,rfl⟩;go_wp2;go_ret;exact⟨rfl,HB1.out⟩
  |true=>
   rw[h2]at HT;simp only[Bool.and_self,if_true];clear h2;go_enter Tryz.func137,Tryz.ntmps137;go_wp2_with fail
   refine(HS.out _).mono ?_
   rintro e w2 ⟨rfl,rfl⟩;go_wp2_with fail
   refine(HT.out _).mono ?_
   rintro e w2 ⟨rfl,rfl⟩;go_wp2_with fail
   refine HC.out.mono ?_;rintro e w2 ⟨rfl,hb2⟩;have HB2:=hid (below_trans HB1.out hb2);clear hb2;go_wp2;go_ret;exact⟨rfl,HB2.out⟩
def a1h(s t:List UInt8)(i k e:Nat):Option Stp:=
 if e=1 then (if i<s.length/\k<t.length/\s.getD i 0=t.getD k 0 then some ⟨1,i+1,k+1,0⟩else none)
 else if e=2 then (if i<s.length/\k<t.length/\s.getD i 0≠t.getD k 0 then some ⟨2,i+1,k+1,1⟩else none)
 else if e=3 then (if i<s.length then some ⟨3,i+1,k,1⟩else none)
 else (if k<t.length then some ⟨4,i,k+1,1⟩else none)
def a4k(i k:Nat)(o:Option Stp)(w:World)(e:Ending)(w':World):Prop:=
 (match o with
  |some x=>∃a b:Nat,e= .returned (.tuple #[.int .i64 (x.cost:Nat),.int .i64 (a:Nat),.int .i64 (b:Nat),.bool true])/\i+a=x.i/\k+b=x.k
  |none=>∃c a b:Int,e= .returned (.tuple #[.int .i64 c,.int .i64 a,.int .i64 b,.bool false]))/\Below w.heap.size w w'
theorem a1Q(w:World)(n:Nat):Below w.heap.size w ((w.alloc (.cells #[.int .i64 1,.int .i64 1] 176)).drewN n):=a0d ((Below.refl _ _).alloc (Nat.le_refl _) _) n
theorem a4F(s t:ByteArray)(i k e:Nat):a1h s.data.toList t.data.toList i k e=if e=1 then (if i<s.size/\k<t.size/\s.data.toList.getD i 0=t.data.toList.getD k 0 then some ⟨1,i+1,k+1,0⟩else none)
 else if e=2 then (if i<s.size/\k<t.size/\s.data.toList.getD i 0≠t.data.toList.getD k 0 then some ⟨2,i+1,k+1,1⟩else none)
 else if e=3 then (if i<s.size then some ⟨3,i+1,k,1⟩else none)
 else (if k<t.size then some ⟨4,i,k+1,1⟩else none):=by
 unfold a1h;rw[a03 s,a03 t]
theorem step_1(s t:ByteArray)(i k:Nat)(hs:s.size<=20)(ht:t.size<=20)(w:World):
  Calls Tryz.prog 182 #[.string s,.string t,.int .i64 i,.int .i64 k,.int .i64 1,.agg #[.int .i64 1,.int .i64 1]] w (a4k i k (a1h s.data.toList t.data.toList i k 1) w):=by
 rw[a4F];simp only[if_true];have h1z:(0:Int)<=(i:Int):=by omega
 have h2z:(0:Int)<=(k:Int):=by omega
 by_cases h1:i<s.size
 ·have h1i:(i:Int)<(s.size:Int):=by omega
  by_cases h2:k<t.size
  ·have h2i:(k:Int)<(t.size:Int):=by omega
   by_cases hb:s[i]=t[k]
   ·have hq:s.data.toList.getD i 0=t.data.toList.getD k 0:=by rw[a1D s h1,a1D t h2,hb]
    have hne:((s[i].toNat:Int)==(t[k].toNat:Int))=true:=by rw[hb];simp
    rw[if_pos ⟨h1,h2,hq⟩];clear hb hq;go_enter Tryz.func182,Tryz.ntmps182;go_wp2;go_quiet (fail)
    go_wp2;refine bodyPost_ret (v:=.tuple #[.int .i64 0,.int .i64 1,.int .i64 1,.bool true]) (by simp[results,Tryz.results182,go_sem]) rfl ?_;exact⟨⟨1,1,rfl,rfl,rfl⟩,a1Q _ _⟩
   have hq:s.data.toList.getD i 0≠t.data.toList.getD k 0:=by rw[a1D s h1,a1D t h2];exact hb
   have hne:((s[i].toNat:Int)==(t[k].toNat:Int))=false:=by
    have hx:¬(s[i].toNat:Int)=(t[k].toNat:Int):=fun h=>hb (UInt8.toNat_inj.1 (by omega));simp[hx]
   rw[if_neg (fun h=>hq h.2.2)];clear hb hq;go_enter Tryz.func182,Tryz.ntmps182;go_wp2;go_quiet (fail)
   go_wp2;refine bodyPost_ret (v:=.tuple #[.int .i64 0,.int .i64 1,.int .i64 1,.bool false]) (by simp[results,Tryz.results182,go_sem]) rfl ?_;exact⟨⟨_,_,_,rfl⟩,a1Q _ _⟩
  have h2i:¬(k:Int)<(t.size:Int):=by omega
  rw[if_neg (fun h=>h2 h.2.1)];go_enter Tryz.func182,Tryz.ntmps182;go_wp2;go_quiet (fail)
  go_wp2;refine bodyPost_ret (v:=.tuple #[.int .i64 0,.int .i64 1,.int .i64 1,.bool false]) (by simp[results,Tryz.results182,go_sem]) rfl ?_;exact⟨⟨_,_,_,rfl⟩,a1Q _ _⟩
 have h1i:¬(i:Int)<(s.size:Int):=by omega
 rw[if_neg (fun h=>h1 h.1)];go_enter Tryz.func182,Tryz.ntmps182;go_wp2;go_quiet (fail)
 go_wp2;refine bodyPost_ret (v:=.tuple #[.int .i64 0,.int .i64 1,.int .i64 1,.bool false]) (by simp[results,Tryz.results182,go_sem]) rfl ?_;exact⟨⟨_,_,_,rfl⟩,a1Q _ _⟩
theorem step_2(s t:ByteArray)(i k:Nat)(hs:s.size<=20)(ht:t.size<=20)(w:World):
  Calls Tryz.prog 182 #[.string s,.string t,.int .i64 i,.int .i64 k,.int .i64 2,.agg #[.int .i64 1,.int .i64 1]] w (a4k i k (a1h s.data.toList t.data.toList i k 2) w):=by
 rw[a4F];simp only[show¬(2=1) by decide,if_true,if_false];have h1z:(0:Int)<=(i:Int):=by omega
 have h2z:(0:Int)<=(k:Int):=by omega
 by_cases h1:i<s.size
 ·have h1i:(i:Int)<(s.size:Int):=by omega
  by_cases h2:k<t.size
  ·have h2i:(k:Int)<(t.size:Int):=by omega
   by_cases hb:s[i]=t[k]
   ·have hq:s.data.toList.getD i 0=t.data.toList.getD k 0:=by rw[a1D s h1,a1D t h2,hb]
    have hne:((s[i].toNat:Int) != (t[k].toNat:Int))=false:=by rw[hb];simp
    rw[if_neg (fun h=>h.2.2 hq)];clear hb hq;go_enter Tryz.func182,Tryz.ntmps182;go_wp2;go_quiet (fail)
    go_wp2;refine bodyPost_ret (v:=.tuple #[.int .i64 1,.int .i64 1,.int .i64 1,.bool false]) (by simp[results,Tryz.results182,go_sem]) rfl ?_;exact⟨⟨_,_,_,rfl⟩,a1Q _ _⟩
   have hq:s.data.toList.getD i 0≠t.data.toList.getD k 0:=by rw[a1D s h1,a1D t h2];exact hb
   have hne:((s[i].toNat:Int) != (t[k].toNat:Int))=true:=by
    have hx:¬(s[i].toNat:Int)=(t[k].toNat:Int):=fun h=>hb (UInt8.toNat_inj.1 (by omega));simp[hx]
   rw[if_pos ⟨h1,h2,hq⟩];clear hb hq;go_enter Tryz.func182,Tryz.ntmps182;go_wp2;go_quiet (fail)
   go_wp2;refine bodyPost_ret (v:=.tuple #[.int .i64 1,.int .i64 1,.int .i64 1,.bool true]) (by simp[results,Tryz.results182,go_sem]) rfl ?_;exact⟨⟨1,1,rfl,rfl,rfl⟩,a1Q _ _⟩
  have h2i:¬(k:Int)<(t.size:Int):=by omega
  rw[if_neg (fun h=>h2 h.2.1)];go_enter Tryz.func182,Tryz.ntmps182;go_wp2;go_quiet (fail)
  go_wp2;refine bodyPost_ret (v:=.tuple #[.int .i64 1,.int .i64 1,.int .i64 1,.bool false]) (by simp[results,Tryz.results182,go_sem]) rfl ?_;exact⟨⟨_,_,_,rfl⟩,a1Q _ _⟩
 have h1i:¬(i:Int)<(s.size:Int):=by omega
 rw[if_neg (fun h=>h1 h.1)];go_enter Tryz.func182,Tryz.ntmps182;go_wp2;go_quiet (fail)
 go_wp2;refine bodyPost_ret (v:=.tuple #[.int .i64 1,.int .i64 1,.int .i64 1,.bool false]) (by simp[results,Tryz.results182,go_sem]) rfl ?_;exact⟨⟨_,_,_,rfl⟩,a1Q _ _⟩
theorem step_3(s t:ByteArray)(i k:Nat)(_hs:s.size<=20)(_ht:t.size<=20)(w:World):
  Calls Tryz.prog 182 #[.string s,.string t,.int .i64 i,.int .i64 k,.int .i64 3,.agg #[.int .i64 1,.int .i64 1]] w (a4k i k (a1h s.data.toList t.data.toList i k 3) w):=by
 rw[a4F];simp only[show¬(3=1) by decide,show¬(3=2) by decide,if_true,if_false];have hbw:Below w.heap.size w (w.alloc (.cells #[.int .i64 1,.int .i64 1] 176)):=(Below.refl _ _).alloc (Nat.le_refl _) _
 have HB:=hid hbw;clear hbw;by_cases h1:i<s.size
 ·have h1i:(i:Int)<(s.size:Int):=by omega
  by_cases h2:k<t.size
  ·have h2i:(k:Int)<(t.size:Int):=by omega
   rw[if_pos h1];go_enter Tryz.func182,Tryz.ntmps182;go_wp2;refine bodyPost_ret (v:=.tuple #[.int .i64 1,.int .i64 1,.int .i64 0,.bool true]) (by simp[results,Tryz.results182,go_sem]) rfl ?_;exact⟨⟨1,0,rfl,rfl,rfl⟩,HB.out⟩
  have h2i:¬(k:Int)<(t.size:Int):=by omega
  rw[if_pos h1];go_enter Tryz.func182,Tryz.ntmps182;go_wp2;refine bodyPost_ret (v:=.tuple #[.int .i64 1,.int .i64 1,.int .i64 0,.bool true]) (by simp[results,Tryz.results182,go_sem]) rfl ?_;exact⟨⟨1,0,rfl,rfl,rfl⟩,HB.out⟩
 have h1i:¬(i:Int)<(s.size:Int):=by omega
 by_cases h2:k<t.size
 ·have h2i:(k:Int)<(t.size:Int):=by omega
  rw[if_neg h1];go_enter Tryz.func182,Tryz.ntmps182;go_wp2;refine bodyPost_ret (v:=.tuple #[.int .i64 1,.int .i64 1,.int .i64 0,.bool false]) (by simp[results,Tryz.results182,go_sem]) rfl ?_;exact⟨⟨_,_,_,rfl⟩,HB.out⟩
 have h2i:¬(k:Int)<(t.size:Int):=by omega
 rw[if_neg h1];go_enter Tryz.func182,Tryz.ntmps182;go_wp2;refine bodyPost_ret (v:=.tuple #[.int .i64 1,.int .i64 1,.int .i64 0,.bool false]) (by simp[results,Tryz.results182,go_sem]) rfl ?_;exact⟨⟨_,_,_,rfl⟩,HB.out⟩
theorem step_4(s t:ByteArray)(i k:Nat)(_hs:s.size<=20)(_ht:t.size<=20)(w:World):
  Calls Tryz.prog 182 #[.string s,.string t,.int .i64 i,.int .i64 k,.int .i64 4,.agg #[.int .i64 1,.int .i64 1]] w (a4k i k (a1h s.data.toList t.data.toList i k 4) w):=by
 rw[a4F];simp only[show¬(4=1) by decide,show¬(4=2) by decide,show¬(4=3) by decide,if_false];have hbw:Below w.heap.size w (w.alloc (.cells #[.int .i64 1,.int .i64 1] 176)):=(Below.refl _ _).alloc (Nat.le_refl _) _
 have HB:=hid hbw;clear hbw;by_cases h1:i<s.size
 ·have h1i:(i:Int)<(s.size:Int):=by omega
  by_cases h2:k<t.size
  ·have h2i:(k:Int)<(t.size:Int):=by omega
   rw[if_pos h2];go_enter Tryz.func182,Tryz.ntmps182;go_wp2;refine bodyPost_ret (v:=.tuple #[.int .i64 1,.int .i64 0,.int .i64 1,.bool true]) (by simp[results,Tryz.results182,go_sem]) rfl ?_;exact⟨⟨0,1,rfl,rfl,rfl⟩,HB.out⟩
  have h2i:¬(k:Int)<(t.size:Int):=by omega
  rw[if_neg h2];go_enter Tryz.func182,Tryz.ntmps182;go_wp2;refine bodyPost_ret (v:=.tuple #[.int .i64 1,.int .i64 0,.int .i64 1,.bool false]) (by simp[results,Tryz.results182,go_sem]) rfl ?_;exact⟨⟨_,_,_,rfl⟩,HB.out⟩
 have h1i:¬(i:Int)<(s.size:Int):=by omega
 by_cases h2:k<t.size
 ·have h2i:(k:Int)<(t.size:Int):=by omega
  rw[if_pos h2];go_enter Tryz.func182,Tryz.ntmps182;go_wp2;refine bodyPost_ret (v:=.tuple #[.int .i64 1,.int .i64 0,.int .i64 1,.bool true]) (by simp[results,Tryz.results182,go_sem]) rfl ?_;exact⟨⟨0,1,rfl,rfl,rfl⟩,HB.out⟩
 have h2i:¬(k:Int)<(t.size:Int):=by omega
 rw[if_neg h2];go_enter Tryz.func182,Tryz.ntmps182;go_wp2;refine bodyPost_ret (v:=.tuple #[.int .i64 1,.int .i64 0,.int .i64 1,.bool false]) (by simp[results,Tryz.results182,go_sem]) rfl ?_;exact⟨⟨_,_,_,rfl⟩,HB.out⟩
end Go.Proofs.YtdfkaijeppdhaaaGreatDoor
namespace Go.Proofs.YtdfkaijeppdhaaaGreatDoor
open Go.RowKit Go.Shelf
open Lib (hid)
attribute [local go_sem] Oper.semAt_some
def preS(s t:List UInt8)(i k:Nat):Nat->List Stp
 |0=>[]
 |e+1=>preS s t i k e++(a1h s t i k (e+1)).toList
theorem a7E(s t:List UInt8)(i k:Nat):preS s t i k 4=a0c s t i k:=by
 unfold preS preS preS preS preS a1h a0c;simp only[if_true,show¬((0:Nat)+1+1=1) by decide,show¬((0:Nat)+1+1+1=1) by decide,show¬((0:Nat)+1+1+1=2) by decide,show¬((0:Nat)+1+1+1+1=1) by decide,show¬((0:Nat)+1+1+1+1=2) by decide,show¬((0:Nat)+1+1+1+1=3) by decide,if_false];generalize s.getD i 0=a;generalize t.getD k 0=b;by_cases h1:i<s.length<;>by_cases h2:k<t.length<;>by_cases h3:a=b<;>simp[h1,h2,h3]
theorem aij(s t:List UInt8)(i k e:Nat)(he:e<=4):∀x∈preS s t i k e,x∈a0c s t i k:=by
 rw[<-a7E]
 have h:∀d,e+d<=4->∀x∈preS s t i k e,x∈preS s t i k (e+d):=by
  intro d;induction d with
  |zero=>exact fun _ x hx=>hx
  |succ d ih=>exact fun hd x hx=>List.mem_append_left _ (ih (by omega) x hx)
 have:=h (4-e) (by omega);rwa[show e+(4-e)=4 by omega]at this
theorem agQ{s t:List UInt8}{i k e:Nat}{x:Stp}(he:e<4)(h:a1h s t i k (e+1)=some x):x∈a0c s t i k:=
 aij s t i k (e+1) (by omega) x (by unfold preS;rw[h];simp)
theorem aik(s t:ByteArray)(i k e:Nat)(he:e<4)(hs:s.size<=20)(ht:t.size<=20)(w:World):
  Calls Tryz.prog 182 #[.string s,.string t,.int .i64 i,.int .i64 k,.int .i64 ((e:Int)+1),.agg #[.int .i64 1,.int .i64 1]] w (a4k i k (a1h s.data.toList t.data.toList i k (e+1)) w):=by
 rcases (show e=0\/e=1\/e=2\/e=3 by omega)with rfl|rfl|rfl|rfl
 ·exact step_1 s t i k hs ht w
 ·exact step_2 s t i k hs ht w
 ·exact step_3 s t i k hs ht w
 exact step_4 s t i k hs ht w
theorem Tryz.infoInts2:(Tryz.prog.info? 122).map (fun i=>(i.zero,i.size,i.bytes))=some (some (.slice none 0 0),1,24):=by kernel_rfl
def zI(N:Nat):Array Value:=madeCells (Value.int .i64 0).cells (N * 1)
def zIs(N:Nat):Array Value:=madeCells (Value.slice none 0 0).cells (N * 1)
theorem ajt(N:Nat):(zI N).size=N * 1:=by simp[zI,madeCells]
theorem abM(N:Nat):(zIs N).size=N:=by simp[zIs,madeCells]
theorem zI_at{N j:Nat}(h:j<N):(zI N)[j]? =some (.int .i64 0):=by
 unfold zI madeCells;simp[Value.cells,Nat.mod_one,h]
theorem ail(N:Nat)(hN:N<=100)(W:World):(Instr.makeSlice 122 (.int .i64 (N:Int)) (.int .i64 (N:Int))).run Tryz.prog W= .ok (.slice (some ⟨W.heap.size,0,none⟩) N N) (W.alloc (.cells (zI N) 3)):=by
 obtain⟨i,h1,h2,h3,h4⟩:=info_parts Tryz.infoInt;have:=run_make (P:=Tryz.prog) W 122 3 i (.int .i64 0) Tryz.underlying122 h1 h2 .i64 .i64 N N (by omega) (Int.le_refl _) (by rw[h4];omega) (by omega)
 rw[h3]at this;simpa [zI]using this
theorem agR(N:Nat)(hN:N<=100)(W:World):(Instr.makeSlice 168 (.int .i64 (N:Int)) (.int .i64 (N:Int))).run Tryz.prog W= .ok (.slice (some ⟨W.heap.size,0,none⟩) N N) (W.alloc (.cells (zIs N) 122)):=by
 obtain⟨i,h1,h2,h3,h4⟩:=info_parts Tryz.infoInts2;have:=run_make (P:=Tryz.prog) W 168 122 i (.slice none 0 0) Tryz.underlying168 h1 h2 .i64 .i64 N N (by omega) (Int.le_refl _) (by rw[h4];omega) (by omega)
 rw[h3]at this;simpa [zIs]using this
def okC(s t:ByteArray)(i k _e:Nat)(v:Value):Prop:=v= .int .i64 (cst s.data.toList t.data.toList i k:Nat)
def okW(_i _k _e:Nat)(v:Value):Prop:=∃y:Int,v= .int .i64 y
abbrev TabI(n m n0 O:Nat)(OK:Nat->Nat->Nat->Value->Prop):=Tab 122 3 1 n0 O n m OK
structure LfW(s t:ByteArray)(w:World)(n0 O1 O2:Nat)(G1 G2:Nat->Nat)(lo kk:Nat)(W:World):Prop where
 p:W.heap[n0]? =some (.cells #[.int .i64 1,.int .i64 1] 176 (0,0))
 t1:TabI s.size t.size n0 O1 (okC s t) G1 lo kk W
 t2:TabI s.size t.size n0 O2 okW G2 lo kk W
 ne:O1≠O2
 sep:∀i j,lo<=i->i<=s.size->lo<=j->j<=s.size->G1 i≠G2 j
 bel:Below n0 w W
 zero:lo=s.size->kk=t.size+1->W.cell? ⟨G1 lo,t.size,none⟩=some (.int .i64 0)
section
variable{s t:ByteArray}{w:World}{n0 O1 O2:Nat}{G1 G2:Nat->Nat}{lo kk:Nat}{W W':World}
theorem LfW.keep(h:LfW s t w n0 O1 O2 G1 G2 lo kk W)(hb:Below W.heap.size W W'):LfW s t w n0 O1 O2 G1 G2 lo kk W':=
 ⟨(hb.block _ (Array.getElem?_eq_some_iff.1 h.p).1).trans h.p,h.t1.below hb,h.t2.below hb,h.ne,h.sep,h.bel.trans (hb.mono (Nat.le_of_lt (Array.getElem?_eq_some_iff.1 h.p).1)),fun h1 h2=>keep_cell hb (h.zero h1 h2)⟩
theorem a0P{W:World}{a b:Nat}{A B:Array Value}{T U:TypeId}{f g:Nat×Nat}(h1:W.heap[a]? =some (.cells A T f))(h2:W.heap[b]? =some (.cells B U g))(h:T≠U):a≠b:=fun e=>by
 subst e;rw[h1]at h2;simp only[Option.some.injEq,Obj.cells.injEq]at h2;exact h h2.2.1
theorem Tab.rowsAt{TO TG:TypeId}{E base O n m:Nat}{OK:Nat->Nat->Nat->Value->Prop}{G:Nat->Nat}{lo kk:Nat}{w:World}(h:Tab TO TG E base O n m OK G lo kk w):∃A,w.heap[O]? =some (.cells A TO (0,0)):=by
 obtain⟨A,h1,_⟩:=h.rows;exact⟨A,h1⟩
theorem Tab.rowAt{TO TG:TypeId}{E base O n m:Nat}{OK:Nat->Nat->Nat->Value->Prop}{G:Nat->Nat}{lo kk:Nat}{w:World}(h:Tab TO TG E base O n m OK G lo kk w){i:Nat}(h1:lo<=i)(h2:i<=n):∃A,w.heap[G i]? =some (.cells A TG (0,0))/\A.size=(m+1) * E:=by
 obtain⟨A,h3,h4,_⟩:=h.row i h1 h2;exact⟨A,h3,h4⟩
theorem LfW.start(hp:W.heap[n0]? =some (.cells #[.int .i64 1,.int .i64 1] 176 (0,0)))(h1:W.heap[O1]? =some (.cells (zIs (s.size+1)) 122 (0,0)))(h2:W.heap[O2]? =some (.cells (zIs (s.size+1)) 122 (0,0)))(hne:O1≠O2)(hb1:n0<=O1)(hb2:n0<=O2)(hb:Below n0 w W):
  LfW s t w n0 O1 O2 (fun _=>0) (fun _=>0) (s.size+1) 0 W:=
 ⟨hp,Tab.start h1 (abM _) hb1 _ _,Tab.start h2 (abM _) hb2 _ _,hne,fun i j h3 h4=>by omega,hb,fun h=>by omega⟩
theorem LfW.more{g1 g2:Nat}(h:LfW s t w n0 O1 O2 G1 G2 (lo+1) 0 W)(hlo:lo<=s.size)(hg1:W.heap.size<=g1)(hg2:W.heap.size<=g2)(hg:g1≠g2)
  (k1:W'.heap[g1]? =some (.cells (zI (t.size+1)) 3 (0,0)))(k2:W'.heap[g2]? =some (.cells (zI (t.size+1)) 3 (0,0)))
  (k3:∀A,W.heap[O1]? =some (.cells A 122 (0,0))->W'.heap[O1]? =some (.cells (A.setIfInBounds lo (.slice (some ⟨g1,0,none⟩) (t.size+1) (t.size+1))) 122 (0,0)))
  (k4:∀A,W.heap[O2]? =some (.cells A 122 (0,0))->W'.heap[O2]? =some (.cells (A.setIfInBounds lo (.slice (some ⟨g2,0,none⟩) (t.size+1) (t.size+1))) 122 (0,0)))
  (hk:∀k,k<W.heap.size->k≠O1->k≠O2->W'.heap[k]? =W.heap[k]?)(hb:Below n0 w W'):LfW s t w n0 O1 O2 (setG G1 lo g1) (setG G2 lo g2) lo (t.size+1) W':=by
 obtain⟨A1,hA1⟩:=h.t1.rowsAt;obtain⟨A2,hA2⟩:=h.t2.rowsAt;have hpl:=(Array.getElem?_eq_some_iff.1 h.p).1
 have keepT:∀{O O':Nat} {OK} {G:Nat->Nat} {g:Nat} (hT:TabI s.size t.size n0 O OK G (lo+1) 0 W),O≠O'->(∀A,W.heap[O]? =some (.cells A 122 (0,0))->W'.heap[O]? =some (.cells (A.setIfInBounds lo (.slice (some ⟨g,0,none⟩) (t.size+1) (t.size+1))) 122 (0,0)))->
   (∃A,W.heap[O']? =some (.cells A 122 (0,0)))->(∀k,k<W.heap.size->k≠O->k≠O'->W'.heap[k]? =W.heap[k]?)->W.heap.size<=g->W'.heap[g]? =some (.cells (zI (t.size+1)) 3 (0,0))->TabI s.size t.size n0 O OK (setG G lo g) lo (t.size+1) W':=by
  rintro O O' OK G g hT hne hO ⟨A',hA'⟩ hk hgs hg9;have hOl:=hT.lt;refine⟨?_,fun i h1 h2=>?_,fun i h1 h2=>?_,fun i j h1 h2 h3 h4 h5=>?_,hT.top⟩
  ·obtain⟨A,h1,h2,h3⟩:=hT.rows;refine⟨_,hO A h1,by simpa using h2,fun i h4 h5=>?_⟩;by_cases e:i=lo
   ·subst e;rw[a0R,Array.getElem?_setIfInBounds_self_of_lt (by omega)]
   rw[a0q _ _ e,Array.getElem?_setIfInBounds_ne (by omega)];exact h3 i (by omega) h5
  ·by_cases e:i=lo
   ·subst e;rw[a0R];exact⟨_,hg9,ajt _,fun k e h3 h4 h5=>by omega⟩
   rw[a0q _ _ e];have hl:=hT.ltG (i:=i) (by omega) h2;obtain⟨A,h3,h4,h5⟩:=hT.row i (by omega) h2;exact⟨A,(hk _ hl (hT.sep i (by omega) h2).1 (a0P h3 hA' (by decide))).trans h3,h4,fun k e h6 h7 _=>h5 k e h6 h7 (.inr (Nat.zero_le _))⟩
  ·by_cases e:i=lo
   ·subst e;rw[a0R];have:=hT.top;omega
   rw[a0q _ _ e];exact hT.sep i (by omega) h2
  by_cases e:i=lo
  ·subst e;rw[a0R,a0q _ _ (Ne.symm h5)];have:=hT.ltG (i:=j) (by omega) h4;omega
  by_cases e2:j=lo
  ·subst e2;rw[a0R,a0q _ _ e];have:=hT.ltG (i:=i) (by omega) h2;omega
  rw[a0q _ _ e,a0q _ _ e2];exact hT.inj i j (by omega) h2 (by omega) h4 h5
 refine⟨(hk _ hpl (a0P h.p hA1 (by decide)) (a0P h.p hA2 (by decide))).trans h.p,keepT h.t1 h.ne k3 ⟨A2,hA2⟩ hk hg1 k1,keepT h.t2 (Ne.symm h.ne) k4 ⟨A1,hA1⟩ (fun k a b c=>hk k a c b) hg2 k2,h.ne,fun i j h1 h2 h3 h4=>?_,hb,fun h1 _=>?_⟩
 ·by_cases e:i=lo
  ·subst e;rw[a0R];by_cases e2:j=i
   ·subst e2;rw[a0R];exact hg
   rw[a0q _ _ e2];have:=h.t2.ltG (i:=j) (by omega) h4;omega
  rw[a0q _ _ e];have:=h.t1.ltG (i:=i) (by omega) h2;by_cases e2:j=lo
  ·subst e2;rw[a0R];omega
  rw[a0q _ _ e2];exact h.sep i j (by omega) h2 (by omega) h4
 rw[a0R];exact heap_cell k1 (zI_at (by omega))
theorem abN{W:World}{g j:Nat}{A:Array Value}{T:TypeId}{f:Nat×Nat}(h:W.heap[g]? =some (.cells A T f)):W.cell? ⟨g,j,none⟩=A[j]? :=by simp[World.cell?,h]
theorem Tab.poke{TO TG:TypeId}{E base O n m:Nat}{OK:Nat->Nat->Nat->Value->Prop}{G:Nat->Nat}{lo kk:Nat}{w w':World}(h:Tab TO TG E base O n m OK G lo (kk+1) w)(hlo:lo<=n)
  (hG:∀A,w.heap[G lo]? =some (.cells A TG (0,0))->∃B,w'.heap[G lo]? =some (.cells B TG (0,0))/\B.size=A.size/\∀j,(j<kk * E\/(kk+1) * E<=j)->B[j]? =A[j]?)
  (hO:w'.heap[O]? =w.heap[O]?)(hk:∀i,lo<i->i<=n->w'.heap[G i]? =w.heap[G i]?):Tab TO TG E base O n m OK G lo (kk+1) w':=by
 refine⟨?_,fun i h1 h2=>?_,h.sep,h.inj,h.top⟩
 ·obtain⟨A,h1,h2⟩:=h.rows;exact⟨A,hO.trans h1,h2⟩
 obtain⟨A,h3,h4,h5⟩:=h.row i h1 h2;by_cases e:i=lo
 ·subst e;obtain⟨B,h6,h7,h8⟩:=hG A h3;refine⟨B,h6,h7.trans h4,fun k e h9 h10 h11=>?_⟩;have hle:(kk+1) * E<=k * E:=Nat.mul_le_mul_right _ (by omega);rw[h8 _ (.inr (by omega))];exact h5 k e h9 h10 h11
 exact⟨A,(hk i (by omega) h2).trans h3,h4,h5⟩
theorem Tab.fill{TO TG:TypeId}{base O n m:Nat}{OK:Nat->Nat->Nat->Value->Prop}{G:Nat->Nat}{lo kk:Nat}{w:World}(h:Tab TO TG 1 base O n m OK G lo (kk+1) w)(hlo:lo<=n)(hkk:kk<=m){v:Value}(hc:w.cell? ⟨G lo,kk,none⟩=some v)(hv:OK lo kk 0 v):Tab TO TG 1 base O n m OK G lo kk w:=
 h.put hlo hkk (fun A hA=>⟨A,hA,rfl,fun _ _=>rfl,fun e he=>by
  obtain rfl:e=0:=by omega
  exact⟨v,by rw[Nat.mul_one,Nat.add_zero,<-abN hA];exact hc,hv⟩⟩) (fun _ _ _=>rfl)
theorem LfW.poke(h:LfW s t w n0 O1 O2 G1 G2 lo (kk+1) W)(hlo:lo<=s.size)(hz:¬(lo=s.size/\kk=t.size))(v1 v2:Value):
  LfW s t w n0 O1 O2 G1 G2 lo (kk+1) ((W.setCell ⟨G1 lo,kk,none⟩ v1).setCell ⟨G2 lo,kk,none⟩ v2):=by
 obtain⟨R1,hR1,_⟩:=h.t1.rowAt (Nat.le_refl _) hlo;obtain⟨R2,hR2,_⟩:=h.t2.rowAt (Nat.le_refl _) hlo;obtain⟨A1,hA1⟩:=h.t1.rowsAt;obtain⟨A2,hA2⟩:=h.t2.rowsAt;have hsep:=h.sep lo lo (Nat.le_refl _) hlo (Nat.le_refl _) hlo;have hk:∀k,k≠G1 lo->k≠G2 lo->((W.setCell ⟨G1 lo,kk,none⟩ v1).setCell ⟨G2 lo,kk,none⟩ v2).heap[k]? =W.heap[k]? :=fun k h1 h2=>(a00 h2).trans (a00 h1)
 refine⟨(hk _ (a0P h.p hR1 (by decide)) (a0P h.p hR2 (by decide))).trans h.p,
  h.t1.poke hlo (fun A hA=>⟨_,(a00 hsep).trans (a0a hA),by simp,fun j hj=>by rw[Array.getElem?_setIfInBounds_ne (by omega)]⟩) (hk _ (a0P hA1 hR1 (by decide)) (a0P hA1 hR2 (by decide))) (fun i h1 h2=>hk _ (h.t1.inj i lo (by omega) h2 (Nat.le_refl _) hlo (by omega)) (h.sep i lo (by omega) h2 (Nat.le_refl _) hlo)),
  h.t2.poke hlo (fun A hA=>⟨_,a0a ((a00 (Ne.symm hsep)).trans hA),by simp,fun j hj=>by rw[Array.getElem?_setIfInBounds_ne (by omega)]⟩) (hk _ (a0P hA2 hR1 (by decide)) (a0P hA2 hR2 (by decide))) (fun i h1 h2=>hk _ (Ne.symm (h.sep lo i (Nat.le_refl _) hlo (by omega) h2)) (h.t2.inj i lo (by omega) h2 (Nat.le_refl _) hlo (by omega))),
  h.ne,h.sep,(h.bel.setCell (p:=⟨G1 lo,kk,none⟩) (h.t1.sep lo (Nat.le_refl _) hlo).2 _).setCell (p:=⟨G2 lo,kk,none⟩) (h.t2.sep lo (Nat.le_refl _) hlo).2 _,fun h1 h2=>absurd ⟨h1,by omega⟩ hz⟩
theorem LfW.poke2(h:LfW s t w n0 O1 O2 G1 G2 lo (kk+1) W)(hlo:lo<=s.size)(v2:Value):
  LfW s t w n0 O1 O2 G1 G2 lo (kk+1) (W.setCell ⟨G2 lo,kk,none⟩ v2):=by
 obtain⟨R1,hR1,_⟩:=h.t1.rowAt (Nat.le_refl _) hlo;obtain⟨R2,hR2,_⟩:=h.t2.rowAt (Nat.le_refl _) hlo;obtain⟨A1,hA1⟩:=h.t1.rowsAt;obtain⟨A2,hA2⟩:=h.t2.rowsAt;have hk:∀k,k≠G2 lo->(W.setCell ⟨G2 lo,kk,none⟩ v2).heap[k]? =W.heap[k]? :=fun k h2=>a00 h2
 have h1k:∀i,lo<=i->i<=s.size->(W.setCell ⟨G2 lo,kk,none⟩ v2).heap[G1 i]? =W.heap[G1 i]? :=fun i h1 h2=>hk _ (h.sep i lo h1 h2 (Nat.le_refl _) hlo)
 refine⟨(hk _ (a0P h.p hR2 (by decide))).trans h.p,h.t1.keep (hk _ (a0P hA1 hR2 (by decide))) h1k,
  h.t2.poke hlo (fun A hA=>⟨_,a0a hA,by simp,fun j hj=>by rw[Array.getElem?_setIfInBounds_ne (by omega)]⟩) (hk _ (a0P hA2 hR2 (by decide))) (fun i h1 h2=>hk _ (h.t2.inj i lo (by omega) h2 (Nat.le_refl _) hlo (by omega))),
  h.ne,h.sep,h.bel.setCell (p:=⟨G2 lo,kk,none⟩) (h.t2.sep lo (Nat.le_refl _) hlo).2 _,fun h1 h2=>(World.cell?_of_block (h1k lo (Nat.le_refl _) hlo)).trans (h.zero h1 h2)⟩
theorem LfW.fill(h:LfW s t w n0 O1 O2 G1 G2 lo (kk+1) W)(hlo:lo<=s.size)(hkk:kk<=t.size)(h1:W.cell? ⟨G1 lo,kk,none⟩=some (.int .i64 (cst s.data.toList t.data.toList lo kk:Nat))){y:Int}(h2:W.cell? ⟨G2 lo,kk,none⟩=some (.int .i64 y)):
  LfW s t w n0 O1 O2 G1 G2 lo kk W:=⟨h.p,h.t1.fill hlo hkk h1 rfl,h.t2.fill hlo hkk h2 ⟨y,rfl⟩,h.ne,h.sep,h.bel,fun _ h3=>by omega⟩
end
theorem LfW.swap{s t:ByteArray}{w:World}{n0 O1 O2:Nat}{W:World}(h:LfW s t w n0 O1 O2 (fun _=>0) (fun _=>0) (s.size+1) 0 W):LfW s t w n0 O2 O1 (fun _=>0) (fun _=>0) (s.size+1) 0 W:=by
 obtain⟨A1,h1,h2,_⟩:=h.t1.rows;obtain⟨A2,h3,h4,_⟩:=h.t2.rows;exact⟨h.p,Tab.start h3 h4 h.t2.top _ _,Tab.start h1 h2 h.t1.top _ _,Ne.symm h.ne,fun i j h3 h4=>by omega,h.bel,fun h=>by omega⟩
theorem aa4{s t:ByteArray}{w W0:World}{n0:Nat}(hp:W0.heap[n0]? =some (.cells #[.int .i64 1,.int .i64 1] 176 (0,0)))(hb:Below n0 w W0)(hz:n0<=W0.heap.size):
  LfW s t w n0 W0.heap.size (W0.heap.size+1) (fun _=>0) (fun _=>0) (s.size+1) 0 ((W0.alloc (.cells (zIs (s.size+1)) 122)).alloc (.cells (zIs (s.size+1)) 122)).drew:=by
 have h2:=World.alloc_heap_new (W0.alloc (.cells (zIs (s.size+1)) 122)) (.cells (zIs (s.size+1)) 122);rw[World.size_alloc]at h2;refine LfW.start ?_ ?_ h2 (by omega) hz (by omega) ((hb.alloc hz _).alloc (by simp;omega) _).drew
 ·exact(Below.heap_alloc _ _ _ (by have:=(Array.getElem?_eq_some_iff.1 hp).1;simp;omega)).trans ((Below.heap_alloc _ _ _ (Array.getElem?_eq_some_iff.1 hp).1).trans hp)
 exact(Below.heap_alloc _ _ _ (by simp)).trans (World.alloc_heap_new W0 _)
section
variable{s t:ByteArray}{w:World}{n0 O1 O2:Nat}{G1 G2:Nat->Nat}{lo:Nat}{W:World}
theorem more_a(h:LfW s t w n0 O1 O2 G1 G2 (lo+1) 0 W)(hlo:lo<=s.size):LfW s t w n0 O1 O2 (setG G1 lo W.heap.size) (setG G2 lo (W.heap.size+1)) lo (t.size+1)
  ((((W.alloc (.cells (zI (t.size+1)) 3)).alloc (.cells (zI (t.size+1)) 3)).setCell ⟨O1,lo,none⟩ (.slice (some ⟨W.heap.size,0,none⟩) (t.size+1) (t.size+1))).setCell ⟨O2,lo,none⟩ (.slice (some ⟨W.heap.size+1,0,none⟩) (t.size+1) (t.size+1))).drew:=by
 have l1:=h.t1.lt;have l2:=h.t2.lt;have n1:=World.alloc_heap_new (W.alloc (.cells (zI (t.size+1)) 3)) (.cells (zI (t.size+1)) 3);rw[World.size_alloc]at n1;have hal:∀k,k<W.heap.size->((W.alloc (.cells (zI (t.size+1)) 3)).alloc (.cells (zI (t.size+1)) 3)).heap[k]? =W.heap[k]? :=fun k hk=>(Below.heap_alloc _ _ _ (by simp;omega)).trans (Below.heap_alloc _ _ _ hk)
 have n0':=(Below.heap_alloc (W.alloc (.cells (zI (t.size+1)) 3)) (.cells (zI (t.size+1)) 3) W.heap.size (by simp)).trans (World.alloc_heap_new W _)
 have hz:=Nat.le_of_lt (Array.getElem?_eq_some_iff.1 h.p).1
 refine h.more hlo (Nat.le_refl _) (by omega) (by omega) ((a00 (by omega)).trans ((a00 (by omega)).trans n0')) ((a00 (by omega)).trans ((a00 (by omega)).trans n1))
  (fun A hA=>(a00 h.ne).trans (a0a ((hal _ l1).trans hA))) (fun A hA=>a0a ((a00 (Ne.symm h.ne)).trans ((hal _ l2).trans hA))) (fun k h1 h2 h3=>(a00 h3).trans ((a00 h2).trans (hal k h1))) ?_
 exact((((h.bel.alloc hz _).alloc (by simp;omega) _).setCell (p:=⟨O1,lo,none⟩) h.t1.top _).setCell (p:=⟨O2,lo,none⟩) h.t2.top _).drew
theorem more_c(h:LfW s t w n0 O1 O2 G1 G2 (lo+1) 0 W)(hlo:lo<=s.size):LfW s t w n0 O1 O2 (setG G1 lo (W.heap.size+1)) (setG G2 lo W.heap.size) lo (t.size+1)
  ((((W.alloc (.cells (zI (t.size+1)) 3)).alloc (.cells (zI (t.size+1)) 3)).setCell ⟨O1,lo,none⟩ (.slice (some ⟨W.heap.size+1,0,none⟩) (t.size+1) (t.size+1))).setCell ⟨O2,lo,none⟩ (.slice (some ⟨W.heap.size,0,none⟩) (t.size+1) (t.size+1))).drew:=by
 have l1:=h.t1.lt;have l2:=h.t2.lt;have n1:=World.alloc_heap_new (W.alloc (.cells (zI (t.size+1)) 3)) (.cells (zI (t.size+1)) 3);rw[World.size_alloc]at n1;have hal:∀k,k<W.heap.size->((W.alloc (.cells (zI (t.size+1)) 3)).alloc (.cells (zI (t.size+1)) 3)).heap[k]? =W.heap[k]? :=fun k hk=>(Below.heap_alloc _ _ _ (by simp;omega)).trans (Below.heap_alloc _ _ _ hk)
 have n0':=(Below.heap_alloc (W.alloc (.cells (zI (t.size+1)) 3)) (.cells (zI (t.size+1)) 3) W.heap.size (by simp)).trans (World.alloc_heap_new W _)
 have hz:=Nat.le_of_lt (Array.getElem?_eq_some_iff.1 h.p).1
 refine h.more hlo (by omega) (Nat.le_refl _) (by omega) ((a00 (by omega)).trans ((a00 (by omega)).trans n1)) ((a00 (by omega)).trans ((a00 (by omega)).trans n0'))
  (fun A hA=>(a00 h.ne).trans (a0a ((hal _ l1).trans hA))) (fun A hA=>a0a ((a00 (Ne.symm h.ne)).trans ((hal _ l2).trans hA))) (fun k h1 h2 h3=>(a00 h3).trans ((a00 h2).trans (hal k h1))) ?_
 exact((((h.bel.alloc hz _).alloc (by simp;omega) _).setCell (p:=⟨O1,lo,none⟩) h.t1.top _).setCell (p:=⟨O2,lo,none⟩) h.t2.top _).drew
theorem more_b(h:LfW s t w n0 O1 O2 G1 G2 (lo+1) 0 W)(hlo:lo<=s.size):LfW s t w n0 O1 O2 (setG G1 lo W.heap.size) (setG G2 lo (W.heap.size+1)) lo (t.size+1)
  ((((W.alloc (.cells (zI (t.size+1)) 3)).setCell ⟨O1,lo,none⟩ (.slice (some ⟨W.heap.size,0,none⟩) (t.size+1) (t.size+1))).alloc (.cells (zI (t.size+1)) 3)).setCell ⟨O2,lo,none⟩ (.slice (some ⟨W.heap.size+1,0,none⟩) (t.size+1) (t.size+1))).drew:=by
 have l1:=h.t1.lt;have l2:=h.t2.lt;have n1:=World.alloc_heap_new ((W.alloc (.cells (zI (t.size+1)) 3)).setCell ⟨O1,lo,none⟩ (.slice (some ⟨W.heap.size,0,none⟩) (t.size+1) (t.size+1))) (.cells (zI (t.size+1)) 3);rw[World.size_setCell,World.size_alloc]at n1;have hz:=Nat.le_of_lt (Array.getElem?_eq_some_iff.1 h.p).1
 have al2:∀k,k<W.heap.size+1->(((W.alloc (.cells (zI (t.size+1)) 3)).setCell ⟨O1,lo,none⟩ (.slice (some ⟨W.heap.size,0,none⟩) (t.size+1) (t.size+1))).alloc (.cells (zI (t.size+1)) 3)).heap[k]? =((W.alloc (.cells (zI (t.size+1)) 3)).setCell ⟨O1,lo,none⟩ (.slice (some ⟨W.heap.size,0,none⟩) (t.size+1) (t.size+1))).heap[k]? :=fun k hk=>Below.heap_alloc _ _ _ (by simp;omega)
 refine h.more hlo (Nat.le_refl _) (by omega) (by omega) ((a00 (by omega)).trans ((al2 _ (by omega)).trans ((a00 (by omega)).trans (World.alloc_heap_new W _)))) ((a00 (by omega)).trans n1)
  (fun A hA=>(a00 h.ne).trans ((al2 _ (by omega)).trans (a0a ((Below.heap_alloc _ _ _ l1).trans hA)))) (fun A hA=>a0a ((al2 _ (by omega)).trans ((a00 (Ne.symm h.ne)).trans ((Below.heap_alloc _ _ _ l2).trans hA)))) (fun k h1 h2 h3=>(a00 h3).trans ((al2 _ (by omega)).trans ((a00 h2).trans (Below.heap_alloc _ _ _ h1)))) ?_
 exact((((h.bel.alloc hz _).setCell (p:=⟨O1,lo,none⟩) h.t1.top _).alloc (by simp;omega) _).setCell (p:=⟨O2,lo,none⟩) h.t2.top _).drew
end
def lfZ(s t:ByteArray)(n0 O1 O2:Nat)(u:Nat->Value):Act:=
 {tmps:=#[.string s,.string t,(u 2),(u 3),(u 4),.pointer (some ⟨n0,0,none⟩),.slice (some ⟨O1,0,none⟩) (s.size+1) (s.size+1),.slice (some ⟨O2,0,none⟩) (s.size+1) (s.size+1),(u 8),(u 9),(u 10),(u 11),(u 12),(u 13),(u 14),(u 15),(u 16),(u 17),(u 18),(u 19),(u 20),(u 21),(u 22),(u 23),(u 24),(u 25),(u 26),(u 27),(u 28),(u 29),(u 30),(u 31),(u 32),(u 33),(u 34),(u 35),(u 36),(u 37),(u 38),(u 39),(u 40),(u 41),(u 42),(u 43),(u 44),(u 45),(u 46),(u 47),(u 48),(u 49),(u 50),(u 51),(u 52),(u 53),(u 54),(u 55),(u 56),(u 57),(u 58),(u 59),(u 60),(u 61),(u 62),(u 63),(u 64),(u 65),(u 66),(u 67),(u 68),(u 69),(u 70),(u 71),(u 72),(u 73),(u 74),(u 75),(u 76),(u 77),(u 78),(u 79),(u 80),(u 81),(u 82),(u 83),(u 84),(u 85),(u 86),(u 87),(u 88),(u 89),(u 90),(u 91),(u 92),(u 93),(u 94),(u 95),(u 96),(u 97),(u 98),(u 99),(u 100),(u 101),(u 102),(u 103),(u 104),(u 105),(u 106),(u 107),(u 108),(u 109),(u 110),(u 111),(u 112),(u 113),(u 114),(u 115),(u 116),(u 117),(u 118),(u 119),(u 120),(u 121),(u 122),(u 123),(u 124),(u 125),(u 126),(u 127),(u 128),(u 129),(u 130),(u 131),(u 132),(u 133),(u 134),(u 135),(u 136),(u 137),(u 138),(u 139),(u 140),(u 141),(u 142),(u 143),(u 144),(u 145),(u 146),(u 147),(u 148),(u 149),(u 150),(u 151),(u 152),(u 153),(u 154),(u 155),(u 156),(u 157),(u 158),(u 159),(u 160),(u 161),(u 162),(u 163),(u 164),(u 165),(u 166)],defers:=[]}
def lfO(s t:ByteArray)(n0 O1 O2:Nat)(i:Int)(u:Nat->Value):Act:=
 {tmps:=#[.string s,.string t,(u 2),(u 3),(u 4),.pointer (some ⟨n0,0,none⟩),.slice (some ⟨O1,0,none⟩) (s.size+1) (s.size+1),.slice (some ⟨O2,0,none⟩) (s.size+1) (s.size+1),.int .i64 i,(u 9),(u 10),(u 11),(u 12),(u 13),(u 14),(u 15),(u 16),(u 17),(u 18),(u 19),(u 20),(u 21),(u 22),(u 23),(u 24),(u 25),(u 26),(u 27),(u 28),(u 29),(u 30),(u 31),(u 32),(u 33),(u 34),(u 35),(u 36),(u 37),(u 38),(u 39),(u 40),(u 41),(u 42),(u 43),(u 44),(u 45),(u 46),(u 47),(u 48),(u 49),(u 50),(u 51),(u 52),(u 53),(u 54),(u 55),(u 56),(u 57),(u 58),(u 59),(u 60),(u 61),(u 62),(u 63),(u 64),(u 65),(u 66),(u 67),(u 68),(u 69),(u 70),(u 71),(u 72),(u 73),(u 74),(u 75),(u 76),(u 77),(u 78),(u 79),(u 80),(u 81),(u 82),(u 83),(u 84),(u 85),(u 86),(u 87),(u 88),(u 89),(u 90),(u 91),(u 92),(u 93),(u 94),(u 95),(u 96),(u 97),(u 98),(u 99),(u 100),(u 101),(u 102),(u 103),(u 104),(u 105),(u 106),(u 107),(u 108),(u 109),(u 110),(u 111),(u 112),(u 113),(u 114),(u 115),(u 116),(u 117),(u 118),(u 119),(u 120),(u 121),(u 122),(u 123),(u 124),(u 125),(u 126),(u 127),(u 128),(u 129),(u 130),(u 131),(u 132),(u 133),(u 134),(u 135),(u 136),(u 137),(u 138),(u 139),(u 140),(u 141),(u 142),(u 143),(u 144),(u 145),(u 146),(u 147),(u 148),(u 149),(u 150),(u 151),(u 152),(u 153),(u 154),(u 155),(u 156),(u 157),(u 158),(u 159),(u 160),(u 161),(u 162),(u 163),(u 164),(u 165),(u 166)],defers:=[]}
def lfI(s t:ByteArray)(n0 O1 O2:Nat)(i k:Int)(u:Nat->Value):Act:=
 {tmps:=#[.string s,.string t,(u 2),(u 3),(u 4),.pointer (some ⟨n0,0,none⟩),.slice (some ⟨O1,0,none⟩) (s.size+1) (s.size+1),.slice (some ⟨O2,0,none⟩) (s.size+1) (s.size+1),.int .i64 i,.int .i64 k,(u 10),(u 11),(u 12),(u 13),(u 14),(u 15),(u 16),(u 17),(u 18),(u 19),(u 20),(u 21),(u 22),(u 23),(u 24),(u 25),(u 26),(u 27),(u 28),(u 29),(u 30),(u 31),(u 32),(u 33),(u 34),(u 35),(u 36),(u 37),(u 38),(u 39),(u 40),(u 41),(u 42),(u 43),(u 44),(u 45),(u 46),(u 47),(u 48),(u 49),(u 50),(u 51),(u 52),(u 53),(u 54),(u 55),(u 56),(u 57),(u 58),(u 59),(u 60),(u 61),(u 62),(u 63),(u 64),(u 65),(u 66),(u 67),(u 68),(u 69),(u 70),(u 71),(u 72),(u 73),(u 74),(u 75),(u 76),(u 77),(u 78),(u 79),(u 80),(u 81),(u 82),(u 83),(u 84),(u 85),(u 86),(u 87),(u 88),(u 89),(u 90),(u 91),(u 92),(u 93),(u 94),(u 95),(u 96),(u 97),(u 98),(u 99),(u 100),(u 101),(u 102),(u 103),(u 104),(u 105),(u 106),(u 107),(u 108),(u 109),(u 110),(u 111),(u 112),(u 113),(u 114),(u 115),(u 116),(u 117),(u 118),(u 119),(u 120),(u 121),(u 122),(u 123),(u 124),(u 125),(u 126),(u 127),(u 128),(u 129),(u 130),(u 131),(u 132),(u 133),(u 134),(u 135),(u 136),(u 137),(u 138),(u 139),(u 140),(u 141),(u 142),(u 143),(u 144),(u 145),(u 146),(u 147),(u 148),(u 149),(u 150),(u 151),(u 152),(u 153),(u 154),(u 155),(u 156),(u 157),(u 158),(u 159),(u 160),(u 161),(u 162),(u 163),(u 164),(u 165),(u 166)],defers:=[]}
def lfE(s t:ByteArray)(n0 O1 O2:Nat)(i k:Int)(q:Bool)(e:Int)(u:Nat->Value):Act:=
 {tmps:=#[.string s,.string t,(u 2),(u 3),(u 4),.pointer (some ⟨n0,0,none⟩),.slice (some ⟨O1,0,none⟩) (s.size+1) (s.size+1),.slice (some ⟨O2,0,none⟩) (s.size+1) (s.size+1),.int .i64 i,.int .i64 k,.bool q,.int .i64 e,(u 12),(u 13),(u 14),(u 15),(u 16),(u 17),(u 18),(u 19),(u 20),(u 21),(u 22),(u 23),(u 24),(u 25),(u 26),(u 27),(u 28),(u 29),(u 30),(u 31),(u 32),(u 33),(u 34),(u 35),(u 36),(u 37),(u 38),(u 39),(u 40),(u 41),(u 42),(u 43),(u 44),(u 45),(u 46),(u 47),(u 48),(u 49),(u 50),(u 51),(u 52),(u 53),(u 54),(u 55),(u 56),(u 57),(u 58),(u 59),(u 60),(u 61),(u 62),(u 63),(u 64),(u 65),(u 66),(u 67),(u 68),(u 69),(u 70),(u 71),(u 72),(u 73),(u 74),(u 75),(u 76),(u 77),(u 78),(u 79),(u 80),(u 81),(u 82),(u 83),(u 84),(u 85),(u 86),(u 87),(u 88),(u 89),(u 90),(u 91),(u 92),(u 93),(u 94),(u 95),(u 96),(u 97),(u 98),(u 99),(u 100),(u 101),(u 102),(u 103),(u 104),(u 105),(u 106),(u 107),(u 108),(u 109),(u 110),(u 111),(u 112),(u 113),(u 114),(u 115),(u 116),(u 117),(u 118),(u 119),(u 120),(u 121),(u 122),(u 123),(u 124),(u 125),(u 126),(u 127),(u 128),(u 129),(u 130),(u 131),(u 132),(u 133),(u 134),(u 135),(u 136),(u 137),(u 138),(u 139),(u 140),(u 141),(u 142),(u 143),(u 144),(u 145),(u 146),(u 147),(u 148),(u 149),(u 150),(u 151),(u 152),(u 153),(u 154),(u 155),(u 156),(u 157),(u 158),(u 159),(u 160),(u 161),(u 162),(u 163),(u 164),(u 165),(u 166)],defers:=[]}
theorem agS{s t:ByteArray}{n0 O1 O2:Nat}{a':Act}(h:a'=lfZ s t n0 O1 O2 (fun k=>a'.tmps.getD k undef)):∃u,a'=lfZ s t n0 O1 O2 u:=⟨_,h⟩
theorem a6E{s t:ByteArray}{n0 O1 O2:Nat}{i:Int}{a':Act}(h:a'=lfO s t n0 O1 O2 i (fun k=>a'.tmps.getD k undef)):∃u,a'=lfO s t n0 O1 O2 i u:=⟨_,h⟩
theorem abO{s t:ByteArray}{n0 O1 O2:Nat}{i k:Int}{a':Act}(h:a'=lfI s t n0 O1 O2 i k (fun k=>a'.tmps.getD k undef)):∃u,a'=lfI s t n0 O1 O2 i k u:=⟨_,h⟩
theorem a4l{s t:ByteArray}{n0 O1 O2:Nat}{i k:Int}{q:Bool}{e:Int}{a':Act}(h:a'=lfE s t n0 O1 O2 i k q e (fun k=>a'.tmps.getD k undef)):∃u,a'=lfE s t n0 O1 O2 i k q e u:=⟨_,h⟩
theorem lfO_i(s t:ByteArray)(n0 O1 O2:Nat)(i:Int)(u:Nat->Value):(lfO s t n0 O1 O2 i u).tmps.getD 8 undef= .int .i64 i:=rfl
theorem lfI_k(s t:ByteArray)(n0 O1 O2:Nat)(i k:Int)(u:Nat->Value):(lfI s t n0 O1 O2 i k u).tmps.getD 9 undef= .int .i64 k:=rfl
theorem lfE_e(s t:ByteArray)(n0 O1 O2:Nat)(i k:Int)(q:Bool)(e:Int)(u:Nat->Value):(lfE s t n0 O1 O2 i k q e u).tmps.getD 11 undef= .int .i64 e:=rfl
def abP(s t:ByteArray)(w:World)(e:Ending)(w':World):Prop:=∃O1 O2 G1,e= .returned (.tuple #[.slice (some ⟨O1,0,none⟩) (s.size+1) (s.size+1),.slice (some ⟨O2,0,none⟩) (s.size+1) (s.size+1)])/\TabI s.size t.size w.heap.size O1 (okC s t) G1 0 0 w'/\Below w.heap.size w w'
def LfO(s t:ByteArray)(w:World)(n0 O1 O2:Nat)(a':Act)(W:World):Prop:=∃(j:Nat) (i:Int) (G1 G2:Nat->Nat),(j<=s.size+1/\i=(j:Int)-1/\LfW s t w n0 O1 O2 G1 G2 j 0 W)/\∃u,a'=lfO s t n0 O1 O2 i u
def LfI(s t:ByteArray)(w:World)(n0 O1 O2:Nat)(G1 G2:Nat->Nat)(j0:Nat)(a':Act)(W:World):Prop:=∃(q:Nat) (k:Int),(q<=t.size+1/\k=(q:Int)-1/\LfW s t w n0 O1 O2 G1 G2 j0 q W)/\∃u,a'=lfI s t n0 O1 O2 (j0:Int) k u
structure EdW(s t:ByteArray)(w:World)(n0 O1 O2:Nat)(G1 G2:Nat->Nat)(j0 k0 m:Nat)(W:World):Prop where
 lf:LfW s t w n0 O1 O2 G1 G2 j0 (k0+1) W
 cur:preS s.data.toList t.data.toList j0 k0 m≠[]->W.cell? ⟨G1 j0,k0,none⟩=some (.int .i64 ((a0Y s.data.toList t.data.toList (preS s.data.toList t.data.toList j0 k0 m)).getD 0:Nat))/\∃y:Int,W.cell? ⟨G2 j0,k0,none⟩=some (.int .i64 y)
def LfE(s t:ByteArray)(w:World)(n0 O1 O2:Nat)(G1 G2:Nat->Nat)(j0 k0:Nat)(a':Act)(W:World):Prop:=∃(m:Nat) (e:Int) (q:Bool),(m<=4/\e=(m:Int)+1/\q= !(preS s.data.toList t.data.toList j0 k0 m).isEmpty/\EdW s t w n0 O1 O2 G1 G2 j0 k0 m W)/\∃u,a'=lfE s t n0 O1 O2 (j0:Int) (k0:Int) q e u
section
variable{s t:ByteArray}{w:World}{n0 O1 O2:Nat}{G1 G2:Nat->Nat}{j0 k0 m:Nat}{W W':World}
theorem EdW.keep(h:EdW s t w n0 O1 O2 G1 G2 j0 k0 m W)(hb:Below W.heap.size W W'):EdW s t w n0 O1 O2 G1 G2 j0 k0 m W':=
 ⟨h.lf.keep hb,fun hn=>by
  obtain⟨h1,y,h2⟩:=h.cur hn;exact⟨keep_cell hb h1,y,keep_cell hb h2⟩⟩
theorem EdW.same(h:EdW s t w n0 O1 O2 G1 G2 j0 k0 m W)(hb:Below W.heap.size W W')(ho:a1h s.data.toList t.data.toList j0 k0 (m+1)=none):EdW s t w n0 O1 O2 G1 G2 j0 k0 (m+1) W':=by
 have hp:preS s.data.toList t.data.toList j0 k0 (m+1)=preS s.data.toList t.data.toList j0 k0 m:=by
  show preS s.data.toList t.data.toList j0 k0 m++(a1h s.data.toList t.data.toList j0 k0 (m+1)).toList=_
  rw[ho];simp
 have h9:=h.keep hb;exact⟨h9.lf,by rw[hp];exact h9.cur⟩
theorem a6F{x:Stp}{s t:List UInt8}(ho:a1h s t j0 k0 (m+1)=some x):preS s t j0 k0 (m+1)=preS s t j0 k0 m++[x]:=by
 show preS s t j0 k0 m++(a1h s t j0 k0 (m+1)).toList=_
 rw[ho];rfl
theorem a7F{W:World}{g j:Nat}{v u:Value}(h:W.cell? ⟨g,j,none⟩=some u):(W.setCell ⟨g,j,none⟩ v).cell? ⟨g,j,none⟩=some v:=World.cell?_setCell_same' _ _ _ (by rw[h];rfl)
theorem EdW.set{xe xi xk xc:Nat}(h:EdW s t w n0 O1 O2 G1 G2 j0 k0 m W)(hj:j0<=s.size)(hk:k0<=t.size)(hz:¬(j0=s.size/\k0=t.size))(ho:a1h s.data.toList t.data.toList j0 k0 (m+1)=some ⟨xe,xi,xk,xc⟩)
  (hb:a13 (a0Y s.data.toList t.data.toList (preS s.data.toList t.data.toList j0 k0 m)) (cst s.data.toList t.data.toList xi xk+xc)=some (cst s.data.toList t.data.toList xi xk+xc))(y:Int):
  EdW s t w n0 O1 O2 G1 G2 j0 k0 (m+1) ((W.setCell ⟨G1 j0,k0,none⟩ (.int .i64 ((xc:Int)+(cst s.data.toList t.data.toList xi xk:Nat)))).setCell ⟨G2 j0,k0,none⟩ (.int .i64 y)).drew:=by
 obtain⟨d1,q6⟩:=h.lf.t1.holdG (i:=j0) (j:=k0) (Nat.le_refl _) hj (by omega);obtain⟨d2,q7⟩:=h.lf.t2.holdG (i:=j0) (j:=k0) (Nat.le_refl _) hj (by omega);have nG:=h.lf.sep j0 j0 (Nat.le_refl _) hj (Nat.le_refl _) hj;refine⟨(h.lf.poke hj hz _ _).keep (Below.refl _ _).drew,fun _=>⟨?_,y,?_⟩⟩
 ·rw[a6F ho,a3c,hb];refine(World.cell?_setCell_other _ _ _ _ (by simp[nG])).trans ((a7F q6).trans ?_)
  rw[Option.getD_some];congr 2;push_cast;omega
 exact a7F ((World.cell?_setCell_other _ _ _ _ (by simp[Ne.symm nG])).trans q7)
theorem EdW.set2{xe xi xk xc b:Nat}(h:EdW s t w n0 O1 O2 G1 G2 j0 k0 m W)(hj:j0<=s.size)(hk:k0<=t.size)(ho:a1h s.data.toList t.data.toList j0 k0 (m+1)=some ⟨xe,xi,xk,xc⟩)(hne:preS s.data.toList t.data.toList j0 k0 m≠[])
  (h9:a0Y s.data.toList t.data.toList (preS s.data.toList t.data.toList j0 k0 m)=some b)(hb:a13 (some b) (cst s.data.toList t.data.toList xi xk+xc)=some b)(y:Int):
  EdW s t w n0 O1 O2 G1 G2 j0 k0 (m+1) (W.setCell ⟨G2 j0,k0,none⟩ (.int .i64 y)).drew:=by
 obtain⟨d2,q7⟩:=h.lf.t2.holdG (i:=j0) (j:=k0) (Nat.le_refl _) hj (by omega);have nG:=h.lf.sep j0 j0 (Nat.le_refl _) hj (Nat.le_refl _) hj;obtain⟨h1,_⟩:=h.cur hne;rw[h9]at h1;refine⟨(h.lf.poke2 hj _).keep (Below.refl _ _).drew,fun _=>⟨?_,y,a7F q7⟩⟩;rw[a6F ho,a3c,h9,hb];exact(World.cell?_setCell_other _ _ _ _ (by simp[nG])).trans h1
theorem EdW.set3{xe xi xk xc b:Nat}(h:EdW s t w n0 O1 O2 G1 G2 j0 k0 m W)(ho:a1h s.data.toList t.data.toList j0 k0 (m+1)=some ⟨xe,xi,xk,xc⟩)(hne:preS s.data.toList t.data.toList j0 k0 m≠[])
  (h9:a0Y s.data.toList t.data.toList (preS s.data.toList t.data.toList j0 k0 m)=some b)(hb:a13 (some b) (cst s.data.toList t.data.toList xi xk+xc)=some b):EdW s t w n0 O1 O2 G1 G2 j0 k0 (m+1) W:=by
 obtain⟨h1,y,h2⟩:=h.cur hne;rw[h9]at h1;refine⟨h.lf,fun _=>⟨?_,y,h2⟩⟩;rw[a6F ho,a3c,h9,hb];exact h1
theorem EdW.done(h:EdW s t w n0 O1 O2 G1 G2 j0 k0 4 W)(hj:j0<=s.size)(hk:k0<=t.size)(hz:¬(j0=s.size/\k0=t.size)):LfW s t w n0 O1 O2 G1 G2 j0 k0 W:=by
 have hne:preS s.data.toList t.data.toList j0 k0 4≠[]:=by
  rw[a7E];unfold a0c;rw[<-a03,<-a03];intro e;simp only[List.append_eq_nil_iff]at e;obtain⟨_,e2,e3⟩:=e;by_cases h1:j0<s.size
  ·rw[if_pos h1]at e2;cases e2
  have h2:k0<t.size:=by omega
  rw[if_pos h2]at e3;cases e3
 obtain⟨h1,y,h2⟩:=h.cur hne;rw[a7E,adg (by rw[<-a03];exact hj) (by rw[<-a03];exact hk)]at h1;exact h.lf.fill hj hk h1 h2
def KX(g1 g2 k:Nat)(W W':World):Prop:=∀b o v,¬(b=g1/\o=k)->¬(b=g2/\o=k)->W.cell? ⟨b,o,none⟩=some v->W'.cell? ⟨b,o,none⟩=some v
theorem KX.refl(g1 g2 k:Nat)(W:World):KX g1 g2 k W W:=fun _ _ _ _ _ h=>h
theorem KX.drew{g1 g2 k:Nat}{W W':World}(h:KX g1 g2 k W W'):KX g1 g2 k W W'.drew:=fun b o v h1 h2 h3=>h b o v h1 h2 h3
theorem KX.set1{g1 g2 k:Nat}{W W':World}(h:KX g1 g2 k W W')(x:Value):KX g1 g2 k W (W'.setCell ⟨g1,k,none⟩ x):=fun b o v h1 h2 h3=>(World.cell?_setCell_other _ _ _ _ (by intro e;injection e with e1 e2;exact h1 ⟨e1.symm,e2.symm⟩)).trans (h b o v h1 h2 h3)
theorem KX.set2{g1 g2 k:Nat}{W W':World}(h:KX g1 g2 k W W')(x:Value):KX g1 g2 k W (W'.setCell ⟨g2,k,none⟩ x):=fun b o v h1 h2 h3=>(World.cell?_setCell_other _ _ _ _ (by intro e;injection e with e1 e2;exact h2 ⟨e1.symm,e2.symm⟩)).trans (h b o v h1 h2 h3)
theorem LfW.away{lo kk i:Nat}(h:LfW s t w n0 O1 O2 G1 G2 lo kk W)(hlo:lo<=s.size)(_hi:lo=i:=by rfl):O1≠G1 lo/\O1≠G2 lo/\O2≠G1 lo/\O2≠G2 lo:=by
 obtain⟨R1,hR1,_⟩:=h.t1.rowAt (Nat.le_refl _) hlo;obtain⟨R2,hR2,_⟩:=h.t2.rowAt (Nat.le_refl _) hlo;obtain⟨A1,hA1⟩:=h.t1.rowsAt;obtain⟨A2,hA2⟩:=h.t2.rowsAt;exact⟨a0P hA1 hR1 (by decide),a0P hA1 hR2 (by decide),a0P hA2 hR1 (by decide),a0P hA2 hR2 (by decide)⟩
theorem LfW.away3{lo kk i k:Nat}(h:LfW s t w n0 O1 O2 G1 G2 lo (kk+1) W)(hlo:lo<=s.size)(hi:i<=s.size)(hx:lo<i\/(i=lo/\kk<k)):¬(G2 i=G1 lo/\k=kk)/\¬(G2 i=G2 lo/\k=kk):=by
 refine⟨fun e=>h.sep lo i (Nat.le_refl _) hlo (by omega) hi e.1.symm,fun e=>?_⟩;by_cases e2:i=lo
 ·omega
 exact h.t2.inj i lo (by omega) hi (Nat.le_refl _) hlo e2 e.1
end
theorem aju (s t:ByteArray) (hs:s.size<=20) (ht:t.size<=20) (w:World):
  CallsIn Fence.wide 4 Tryz.prog 138 #[.string s,.string t,.agg #[.int .i64 1,.int .i64 1]] w (abP s t w):=by
 have hmkO:=fun W=>agR (s.size+1) (by omega) W;rw[show ((s.size+1:Nat):Int)=(s.size:Int)+1 from rfl]at hmkO;have hw1:IntKind.i64.wrap ((s.size:Int)+1)=(s.size:Int)+1:=IntWalk.i64_in _ (by omega);refine callsIn_of_wp Tryz.func138 rfl trivial ?_ rfl;simp only[Tryz.ntmps138,List.size_toArray,List.length_cons,List.length_nil,Nat.reduceAdd,Nat.reduceSub,Array.replicate_succ,Array.replicate_zero,List.push_toArray,List.append_toArray,List.nil_append,List.cons_append];gi_wp2;obtain⟨n0,hn0⟩:∃n0,n0=w.heap.size:=⟨_,rfl⟩
 obtain⟨W0,hW0⟩:∃W0,W0=w.alloc (.cells #[.int .i64 1,.int .i64 1] 176):=⟨_,rfl⟩
 have hp0:W0.heap[n0]? =some (.cells #[.int .i64 1,.int .i64 1] 176 (0,0)):=by rw[hW0,hn0];exact World.alloc_heap_new w _
 have hb0:Below n0 w W0:=by rw[hW0,hn0];exact(Below.refl _ _).alloc (Nat.le_refl _) _
 have hz0:n0<=W0.heap.size:=Nat.le_of_lt (Array.getElem?_eq_some_iff.1 hp0).1
 rw[<-hW0,<-hn0];have HP0:=hid hp0;have HB0:=hid hb0;have HZ0:=hid hz0;have HN0:=hid hn0;clear hW0 hp0 hb0 hz0 hn0;refine wpIn_wide.2 ?_;refine Code.wp_mono (Q:=fun e a' W=>e= .normal/\∃O1 O2,(∃u,a'=lfZ s t n0 O1 O2 u)/\LfW s t w n0 O1 O2 (fun _=>0) (fun _=>0) (s.size+1) 0 W) ?next0 ?reg0
 case reg0=>
  have hHeld:True:=trivial;refine wp_region_held_drew (S:=fun _=>True) (by kernel_rfl) trivial (fun hHeld=>?_);refine tk [0,1,2,4,5,6] ?_;repeat (refine tkC hHeld (h:=?_);apply exq;(· intro W3 hS3;go_simp;try rfl);try simp only[gS])
  with_reducible refine tkE ?_
  refine wpAnyH_ready (rs:=[3,7]) (by kernel_rfl) (by simp) ?_;refine AllReadyH.cons rfl (fun K hK=>?_) (AllReadyH.cons rfl (fun K hK=>?_) AllReadyH.nil)
  ·go_simp;refine hK.out _ _ trivial (fun hHeld=>?_);clear hK K;try simp only[gS]
   refine tk [8] ?_;repeat (refine tkC hHeld (h:=?_);apply exq;(· intro W3 hS3;go_simp;try rfl);try simp only[gS])
   with_reducible refine tkE ?_
   refine rdy 7 (h:=fun K hK=>?_);go_simp;refine hK.out _ _ trivial (fun hHeld=>?_);clear hK K;try simp only[gS]
   refine tk [9] ?_;repeat (refine tkC hHeld (h:=?_);apply exq;(· intro W3 hS3;go_simp;try rfl);try simp only[gS])
   with_reducible refine tkE ?_
   exact wpAnyH_done (by kernel_rfl) ⟨rfl,_,_,agS rfl,aa4 HP0.out HB0.out HZ0.out⟩ _
  go_simp;refine hK.out _ _ trivial (fun hHeld=>?_);clear hK K;try simp only[gS]
  refine rdy 3 (h:=fun K hK=>?_);go_simp;refine hK.out _ _ trivial (fun hHeld=>?_);clear hK K;try simp only[gS]
  refine tk [8,9] ?_;repeat (refine tkC hHeld (h:=?_);apply exq;(· intro W3 hS3;go_simp;try rfl);try simp only[gS])
  with_reducible refine tkE ?_
  exact wpAnyH_done (by kernel_rfl) ⟨rfl,_,_,agS rfl,(aa4 HP0.out HB0.out HZ0.out).swap⟩ _
 case next0=>
  clear hmkO hw1;rintro e a' W1 ⟨rfl,O1,O2,⟨u1,rfl⟩,hL1⟩;unfold lfZ;have HL1:=hid hL1;clear hL1;gi_wp2;refine wpIn_loop (LfO s t w n0 O1 O2) (fun a' W=>(intOf (a'.tmps.getD 8 undef)+1).toNat) ?start ?round;case start=>exact⟨s.size+1,_,_,_,⟨Nat.le_refl _,by omega,HL1.out⟩,a6E rfl⟩
  case round=>
   rintro _ W ⟨j,i,G1,G2,⟨hj,hi,hL⟩,u,rfl⟩;rw[lfO_i];unfold lfO;rcases Nat.eq_zero_or_pos j with h0|h0
   ·subst h0;have hneg:¬(0:Int)<=i:=by omega
    have HL:=hid hL;clear hL hi;gi_wp2;refine bodyPost_ret (results_tmp2 rfl _ _ _) rfl ?_;exact⟨O1,O2,G1,rfl,by rw[<-HN0.out];exact HL.out.t1,by rw[<-HN0.out];exact HL.out.bel⟩
   obtain⟨j0,rfl⟩:∃j0,j=j0+1:=⟨j-1,by omega⟩
   obtain rfl:i=(j0:Int):=by omega
   have hpos:(0:Int)<=(j0:Int):=by omega
   have hji:(j0:Int)<(s.size:Int)+1:=by omega
   have hmkR:=fun W=>ail (t.size+1) (by omega) W;rw[show ((t.size+1:Nat):Int)=(t.size:Int)+1 from rfl]at hmkR;have hw1:IntKind.i64.wrap ((t.size:Int)+1)=(t.size:Int)+1:=IntWalk.i64_in _ (by omega);have hal:Below W.heap.size W ((W.alloc (.cells (zI (t.size+1)) 3)).alloc (.cells (zI (t.size+1)) 3)):=((Below.refl _ _).alloc (Nat.le_refl _) _).alloc (by simp) _
   obtain⟨v1,hv1⟩:=(hL.t1.below hal).holdO (i:=j0) (by omega)
   have hf1:=(hL.t1.below hal).frozenO j0
   obtain⟨v2,hv2⟩:=(hL.t2.below hal).holdO (i:=j0) (by omega)
   have hf2:=(hL.t2.below hal).frozenO j0
   have hal1:Below W.heap.size W (W.alloc (.cells (zI (t.size+1)) 3)):=(Below.refl _ _).alloc (Nat.le_refl _) _
   obtain⟨v3,hv3⟩:=(hL.t1.below hal1).holdO (i:=j0) (by omega)
   have hf3:=(hL.t1.below hal1).frozenO j0
   have hk4:∀A,W.heap[O2]? =some (Obj.cells A 122 (0,0))->(((W.alloc (.cells (zI (t.size+1)) 3)).setCell ⟨O1,j0,none⟩ (.slice (some ⟨W.heap.size,0,none⟩) (t.size+1) (t.size+1))).alloc (.cells (zI (t.size+1)) 3)).heap[O2]? =some (Obj.cells A 122 (0,0)):=fun A hA=>(Below.heap_alloc _ _ _ (by have:=hL.t2.lt;simp;omega)).trans ((a00 (Ne.symm hL.ne)).trans ((Below.heap_alloc _ _ _ hL.t2.lt).trans hA))
   obtain⟨A9,hA9,hA9s,_⟩:=hL.t2.rows;obtain⟨v4,hv4⟩:∃v,(((W.alloc (.cells (zI (t.size+1)) 3)).setCell ⟨O1,j0,none⟩ (.slice (some ⟨W.heap.size,0,none⟩) (t.size+1) (t.size+1))).alloc (.cells (zI (t.size+1)) 3)).cell? ⟨O2,j0,none⟩=some v:=⟨_,heap_cell (j:=j0) (hk4 A9 hA9) (Array.getElem?_eq_getElem (by omega))⟩
   have hf4:(((W.alloc (.cells (zI (t.size+1)) 3)).setCell ⟨O1,j0,none⟩ (.slice (some ⟨W.heap.size,0,none⟩) (t.size+1) (t.size+1))).alloc (.cells (zI (t.size+1)) 3)).frozen? ⟨O2,j0,none⟩=false:=by simp only[World.frozen?,hk4 A9 hA9];rfl
   clear hk4 hA9 hA9s;have hOO:¬O2=O1:=Ne.symm hL.ne;have hOO2:¬O1=O2:=hL.ne;have HL:=hid hL;have HJ:Hid (j0<=s.size):=hid (by omega);clear hL hi h0 hj hal hal1;gi_wp2;refine wpIn_wide.2 ?_;refine Code.wp_mono (Q:=fun e a' W'=>e= .normal/\(∃u,a'=lfO s t n0 O1 O2 (j0:Int) u)/\∃g1 g2,LfW s t w n0 O1 O2 (setG G1 j0 g1) (setG G2 j0 g2) j0 (t.size+1) W') ?next1 ?reg1
   case reg1=>
    have hHeld:True:=trivial;refine wp_region_held_drew (S:=fun _=>True) (by kernel_rfl) trivial (fun hHeld=>?_);refine tk [0,1,2,3,4,5,6,8,9,10] ?_;repeat (refine tkC hHeld (h:=?_);apply exq;(· intro W3 hS3;go_simp;try rfl);try simp only[gS])
    with_reducible refine tkE ?_
    refine wpAnyH_ready (rs:=[7,11]) (by kernel_rfl) (by simp) ?_;refine AllReadyH.cons rfl (fun K hK=>?_) (AllReadyH.cons rfl (fun K hK=>?_) AllReadyH.nil)
    ·go_simp;refine hK.out _ _ trivial (fun hHeld=>?_);clear hK K;try simp only[gS]
     refine tk [12] ?_;repeat (refine tkC hHeld (h:=?_);apply exq;(· intro W3 hS3;go_simp;try rfl);try simp only[gS])
     with_reducible refine tkE ?_
     refine wpAnyH_ready (rs:=[11,13]) (by kernel_rfl) (by simp) ?_;refine AllReadyH.cons rfl (fun K hK=>?_) (AllReadyH.cons rfl (fun K hK=>?_) AllReadyH.nil)
     ·go_simp;refine hK.out _ _ trivial (fun hHeld=>?_);clear hK K;try simp only[gS]
      refine rdy 13 (h:=fun K hK=>?_);go_simp;refine hK.out _ _ trivial (fun hHeld=>?_);clear hK K;try simp only[gS]
      refine tk [14] ?_;repeat (refine tkC hHeld (h:=?_);apply exq;(· intro W3 hS3;go_simp;try rfl);try simp only[gS])
      with_reducible refine tkE ?_
      refine rdy 15 (h:=fun K hK=>?_);go_simp;refine hK.out _ _ trivial (fun hHeld=>?_);clear hK K;try simp only[gS]
      exact wpAnyH_done (by kernel_rfl) ⟨rfl,a6E rfl,_,_,more_a HL.out HJ.out⟩ _
     go_simp;refine hK.out _ _ trivial (fun hHeld=>?_);clear hK K;try simp only[gS]
     refine rdy 11 (h:=fun K hK=>?_);go_simp;refine hK.out _ _ trivial (fun hHeld=>?_);clear hK K;try simp only[gS]
     refine tk [14] ?_;repeat (refine tkC hHeld (h:=?_);apply exq;(· intro W3 hS3;go_simp;try rfl);try simp only[gS])
     with_reducible refine tkE ?_
     refine rdy 15 (h:=fun K hK=>?_);go_simp;refine hK.out _ _ trivial (fun hHeld=>?_);clear hK K;try simp only[gS]
     exact wpAnyH_done (by kernel_rfl) ⟨rfl,a6E rfl,_,_,more_b HL.out HJ.out⟩ _
    go_simp;refine hK.out _ _ trivial (fun hHeld=>?_);clear hK K;try simp only[gS]
    refine rdy 7 (h:=fun K hK=>?_);go_simp;refine hK.out _ _ trivial (fun hHeld=>?_);clear hK K;try simp only[gS]
    refine tk [12] ?_;repeat (refine tkC hHeld (h:=?_);apply exq;(· intro W3 hS3;go_simp;try rfl);try simp only[gS])
    with_reducible refine tkE ?_
    refine rdy 13 (h:=fun K hK=>?_);go_simp;refine hK.out _ _ trivial (fun hHeld=>?_);clear hK K;try simp only[gS]
    refine tk [14] ?_;repeat (refine tkC hHeld (h:=?_);apply exq;(· intro W3 hS3;go_simp;try rfl);try simp only[gS])
    with_reducible refine tkE ?_
    refine rdy 15 (h:=fun K hK=>?_);go_simp;refine hK.out _ _ trivial (fun hHeld=>?_);clear hK K;try simp only[gS]
    exact wpAnyH_done (by kernel_rfl) ⟨rfl,a6E rfl,_,_,more_c HL.out HJ.out⟩ _
   case next1=>
    clear hmkR hf1 hv1 hf2 hv2 hf3 hv3 hf4 hv4 hOO hOO2;rintro e a' W2 ⟨rfl,⟨u1,rfl⟩,g1,g2,hL2⟩;unfold lfO;generalize setG G1 j0 g1=G1 at *;generalize setG G2 j0 g2=G2 at *;have HL2:=hid hL2;clear hL2;gi_wp2;refine wpIn_loop (LfI s t w n0 O1 O2 G1 G2 j0) (fun a' W=>(intOf (a'.tmps.getD 9 undef)+1).toNat) ?start ?round;case start=>exact⟨t.size+1,_,⟨Nat.le_refl _,by omega,HL2.out⟩,abO rfl⟩
    case round=>
     rintro _ W3 ⟨q,k,⟨hq,hk,hL3⟩,u3,rfl⟩;rw[lfI_k];unfold lfI;rcases Nat.eq_zero_or_pos q with h0|h0
     ·subst h0;have hneg:¬(0:Int)<=k:=by omega
      have HL3:=hid hL3;clear hL3 hk hq;have hw2:IntKind.i64.wrap ((j0:Int)-1)=(j0:Int)-1:=IntWalk.i64_in _ (by omega);gi_wp2;refine⟨⟨j0,_,G1,G2,⟨by have:=HJ.out;omega,rfl,HL3.out⟩,a6E rfl⟩,?_⟩;simp only[intOf];omega
     obtain⟨k0,rfl⟩:∃k0,q=k0+1:=⟨q-1,by omega⟩
     obtain rfl:k=(k0:Int):=by omega
     have hpos2:(0:Int)<=(k0:Int):=by omega
     have hki:(k0:Int)<(t.size:Int)+1:=by omega
     have hw3:IntKind.i64.wrap ((k0:Int)-1)=(k0:Int)-1:=IntWalk.i64_in _ (by omega);have HQ:Hid (k0<=t.size):=hid (by omega);have HL3:=hid hL3;clear hL3 hk h0 hq;have q2:=HL3.out.t2.look (i:=j0) (Nat.le_refl _) HJ.out;obtain⟨v2,c2⟩:=HL3.out.t2.holdG (i:=j0) (j:=k0) (Nat.le_refl _) HJ.out (by have:=HQ.out;omega);have fz2:=HL3.out.t2.frozenG (i:=j0) (Nat.le_refl _) HJ.out
     have HBOTH:Hid (j0=s.size->k0=t.size->LfW s t w n0 O1 O2 G1 G2 j0 k0 (W3.setCell ⟨G2 j0,k0,none⟩ (.int .i64 1))):=hid (fun e1 e2=>by
      have h9:=HL3.out.poke2 HJ.out (.int .i64 1);obtain⟨A2,hA2,hA2s⟩:=HL3.out.t2.rowAt (Nat.le_refl _) HJ.out;refine h9.fill (y:=1) HJ.out HQ.out ?_ ?_
      ·rw[e1,e2,a03 s,a03 t,adf,<-a03,<-a03];have h8:=h9.zero e1 (by omega);rw[e1,e2]at h8;exact h8
      rw[abN (a0a hA2),Array.getElem?_setIfInBounds_self_of_lt (by have:=HQ.out;omega)])
     rcases (show (j0=s.size/\k0=t.size)\/(j0=s.size/\¬k0=t.size)\/¬j0=s.size by omega)with⟨hbi,hbk⟩|⟨hbi,hbk⟩|hbi
     ·have t1:((j0:Int)==(s.size:Int))=true:=by rw[beq_iff_eq];omega
      have t2:((k0:Int)==(t.size:Int))=true:=by rw[beq_iff_eq];omega
      have HB2:=hid (HBOTH.out hbi hbk);clear hbi hbk;gi_wp2;refine⟨⟨k0,_,⟨by have:=HQ.out;omega,rfl,HB2.out⟩,abO rfl⟩,?_⟩;show (((k0:Int)-1)+1).toNat<((k0:Int)+1).toNat
      omega
     have t1:((j0:Int)==(s.size:Int))=true:=by rw[beq_iff_eq];omega
     have t2:((k0:Int)==(t.size:Int))=false:=by rw[beq_eq_false_iff_ne];omega
     have HNB:Hid (¬(j0=s.size/\k0=t.size)):=hid (by omega);clear hbi hbk HBOTH q2 c2 fz2;rotate_left
     have t1:((j0:Int)==(s.size:Int))=false:=by rw[beq_eq_false_iff_ne];omega
     have HNB:Hid (¬(j0=s.size/\k0=t.size)):=hid (by omega);clear hbi HBOTH q2 c2 fz2
     all_goals
      gi_wp2;refine wpIn_loop (LfE s t w n0 O1 O2 G1 G2 j0 k0) (fun a' W=>5-(intOf (a'.tmps.getD 11 undef)).toNat) ?start ?round;case start=>exact⟨0,1,false,⟨by omega,rfl,rfl,⟨HL3.out,fun h=>absurd rfl h⟩⟩,a4l rfl⟩
      case round=>
       rintro _ W4 ⟨m,e,q,⟨hm,he,hq,hE⟩,u4,rfl⟩;rw[lfE_e];unfold lfE;have HQB:=hid hq;have HE:=hid hE;clear hq hE;rcases Nat.lt_or_eq_of_le hm with hm4|rfl
       ·obtain rfl:e=(m:Int)+1:=he;have hle:(m:Int)+1<=4:=by omega
        have hw4:IntKind.i64.wrap ((m:Int)+1+1)=(m:Int)+1+1:=IntWalk.i64_in _ (by omega);have hpp:=HE.out.lf.p;have p0:=heap_cell (j:=0) hpp rfl;have p1:=heap_cell (j:=1) hpp rfl;have HST:=hid (aik s t j0 k0 m hm4 hs ht W4);have HPR:Hid (preS s.data.toList t.data.toList j0 k0 (m+1)=preS s.data.toList t.data.toList j0 k0 m++(a1h s.data.toList t.data.toList j0 k0 (m+1)).toList):=hid rfl;have HMM:=hid (fun x (h:a1h s.data.toList t.data.toList j0 k0 (m+1)=some x)=>agQ hm4 h);generalize hoo:a1h s.data.toList t.data.toList j0 k0 (m+1)=o at HST HPR HMM;have HOO:=hid hoo;clear hpp hm hoo;cases o with
        |none=>
         gi_wp2;refine⟨trivial,callsIn_wide.2 (HST.out.mono ?_)⟩;rintro e w5 ⟨⟨c,a,b,rfl⟩,hb5⟩;have HE5:=hid (HE.out.same hb5 HOO.out);clear hb5 p0 p1;gi_wp2;refine⟨⟨m+1,_,q,⟨by omega,by omega,by rw[HQB.out,HPR.out];simp,HE5.out⟩,a4l rfl⟩,?_⟩;show 5-((m:Int)+1+1).toNat<5-((m:Int)+1).toNat
         omega
        | some x=>
         obtain⟨xe,xi,xk,xc⟩:=x;gi_wp2;refine⟨trivial,callsIn_wide.2 (HST.out.mono ?_)⟩;rintro e w5 ⟨⟨a,b,rfl,ha,hb⟩,hb5⟩;have HE5:=hid (HE.out.keep hb5);simp only at ha hb;obtain⟨h1,h2,h3,h4⟩:=a8F (by rw[<-a03];exact HJ.out) (by rw[<-a03];exact HQ.out) (HMM.out _ rfl);rw[<-a03]at h1 h2;simp only at h1 h2 h3 h4;have hcst:=agD s.data.toList t.data.toList xi xk;rw[<-a03,<-a03]at hcst;have q0:=HE5.out.lf.t1.look (i:=j0) (Nat.le_refl _) HJ.out;have q1:=HE5.out.lf.t2.look (i:=j0) (Nat.le_refl _) HJ.out;have q2:=HE5.out.lf.t1.look (i:=xi) (by omega) h1;have q3:=HE5.out.lf.t2.look (i:=xi) (by omega) h1;obtain⟨v1,q4,hv1⟩:=HE5.out.lf.t1.entry (i:=xi) (k:=xk) (e:=0) (by omega) h1 h2 (by omega) (by omega);obtain⟨v2,q5,⟨y2,hv2⟩⟩:=HE5.out.lf.t2.entry (i:=xi) (k:=xk) (e:=0) (by omega) h1 h2 (by omega) (by omega);unfold okC at hv1;subst hv1;subst hv2;simp only[Nat.mul_one,Nat.add_zero]at q4 q5;obtain⟨d1,q6⟩:=HE5.out.lf.t1.holdG (i:=j0) (j:=k0) (Nat.le_refl _) HJ.out (by have:=HQ.out;omega);obtain⟨d2,q7⟩:=HE5.out.lf.t2.holdG (i:=j0) (j:=k0) (Nat.le_refl _) HJ.out (by have:=HQ.out;omega);have fz1:=HE5.out.lf.t1.frozenG (i:=j0) (Nat.le_refl _) HJ.out;have fz2:=HE5.out.lf.t2.frozenG (i:=j0) (Nat.le_refl _) HJ.out;have HX1:=hid (fun y (hbst:a13 (a0Y s.data.toList t.data.toList (preS s.data.toList t.data.toList j0 k0 m)) (cst s.data.toList t.data.toList xi xk+xc)=some (cst s.data.toList t.data.toList xi xk+xc))=>HE5.out.set HJ.out HQ.out HNB.out HOO.out hbst y);have HX2:=hid (fun b y (hne:preS s.data.toList t.data.toList j0 k0 m≠[]) (h9:a0Y s.data.toList t.data.toList (preS s.data.toList t.data.toList j0 k0 m)=some b) (hbst:a13 (some b) (cst s.data.toList t.data.toList xi xk+xc)=some b)=>HE5.out.set2 HJ.out HQ.out HOO.out hne h9 hbst y)
         have HX3:=hid (fun b (hne:preS s.data.toList t.data.toList j0 k0 m≠[]) (h9:a0Y s.data.toList t.data.toList (preS s.data.toList t.data.toList j0 k0 m)=some b) (hbst:a13 (some b) (cst s.data.toList t.data.toList xi xk+xc)=some b)=>HE5.out.set3 HOO.out hne h9 hbst);have nG:G1 j0≠G2 j0:=HE5.out.lf.sep j0 j0 (Nat.le_refl _) HJ.out (Nat.le_refl _) HJ.out;have HKX:Hid (KX (G1 j0) (G2 j0) k0 w5 w5.drew):=hid (KX.drew (KX.refl _ _ _ _));have HR1:=hid (HE5.out.lf.away (i:=j0) HJ.out);have HR2:=hid (HE5.out.lf.away3 HJ.out h1 h3);have hwa:IntKind.i64.wrap ((j0:Int)+(a:Int))=(xi:Int):=by rw[IntWalk.i64_in _ (by omega)];omega
         have hwb:IntKind.i64.wrap ((k0:Int)+(b:Int))=(xk:Int):=by rw[IntWalk.i64_in _ (by omega)];omega
         have z1:(0:Int)<=(xi:Int):=by omega
         have z2:(xi:Int)<(s.size:Int)+1:=by omega
         have z3:(0:Int)<=(xk:Int):=by omega
         have z4:(xk:Int)<(t.size:Int)+1:=by omega
         have HEC:=hid (fun h=>HE5.out.cur h);have HPN:Hid ((preS s.data.toList t.data.toList j0 k0 (m+1)).isEmpty=false):=hid (by rw[HPR.out];simp);generalize cst s.data.toList t.data.toList xi xk=c1 at *;have hwc:IntKind.i64.wrap ((xc:Int)+(c1:Int))=(xc:Int)+(c1:Int):=IntWalk.i64_in _ (by omega);clear hb5 p0 p1 ha hb h3 hcst;cases hqv:q
         have hem:preS s.data.toList t.data.toList j0 k0 m=[]:=by
          have h9:=HQB.out;rw[hqv]at h9;have h8:(preS s.data.toList t.data.toList j0 k0 m).isEmpty=true:=by simpa using h9.symm
          exact List.isEmpty_iff.1 h8
         have HY:=hid (fun y=>HX1.out y (by rw[hem];rfl));clear hqv hem HEC HX1 HX2 HX3;rotate_left
         have hem:preS s.data.toList t.data.toList j0 k0 m≠[]:=fun h9=>by
          have h8:=HQB.out;rw[hqv,h9]at h8;cases h8
         obtain⟨hcur,y,hcy⟩:=HEC.out hem;obtain⟨bN,hbN⟩:=abI (s:=s.data.toList) (t:=t.data.toList) hem;rw[hbN]at hcur;simp only[Option.getD_some]at hcur;have HNE:=hid hem;have HBN:=hid hbN;clear hqv hem HEC q6 q7 hbN;rcases Nat.lt_trichotomy (xc+c1) bN with hlt|heq|hgt;have t9:(xc:Int)+(c1:Int)<(bN:Int):=by omega
         have HY:=hid (fun y=>HX1.out y (by rw[HBN.out];simp only[a13];rw[if_pos (by omega)]));clear hlt HX1 HX2 HX3;rotate_right
         iterate 2
          gi_wp2;have r0:∀W',KX (G1 j0) (G2 j0) k0 w5 W'->W'.cell? ⟨O1,j0,none⟩=some (.slice (some ⟨G1 j0,0,none⟩) (t.size+1) (t.size+1)):=fun W' h=>h _ _ _ (fun e=>HR1.out.1 e.1) (fun e=>HR1.out.2.1 e.1) q0;have r1:∀W',KX (G1 j0) (G2 j0) k0 w5 W'->W'.cell? ⟨O2,j0,none⟩=some (.slice (some ⟨G2 j0,0,none⟩) (t.size+1) (t.size+1)):=fun W' h=>h _ _ _ (fun e=>HR1.out.2.2.1 e.1) (fun e=>HR1.out.2.2.2 e.1) q1;have r2:∀W',KX (G1 j0) (G2 j0) k0 w5 W'->W'.cell? ⟨O2,xi,none⟩=some (.slice (some ⟨G2 xi,0,none⟩) (t.size+1) (t.size+1)):=fun W' h=>h _ _ _ (fun e=>HR1.out.2.2.1 e.1) (fun e=>HR1.out.2.2.2 e.1) q3;have r3:∀W',KX (G1 j0) (G2 j0) k0 w5 W'->W'.cell? ⟨G2 xi,xk,none⟩=some (.int .i64 y2):=fun W' h=>h _ _ _ HR2.out.1 HR2.out.2 q5;obtain⟨d1,q6⟩:=HE5.out.lf.t1.holdG (i:=j0) (j:=k0) (Nat.le_refl _) HJ.out (by have:=HQ.out;omega);obtain⟨d2,q7⟩:=HE5.out.lf.t2.holdG (i:=j0) (j:=k0) (Nat.le_refl _) HJ.out (by have:=HQ.out;omega);have ng1:¬G1 j0=G2 j0:=nG;have ng2:¬G2 j0=G1 j0:=Ne.symm nG;generalize G1 j0=g1 at *;generalize G2 j0=g2 at *;generalize G2 xi=g3 at *;have hHeld:=HKX.out;refine wpIn_wide.2 ?_;refine Code.wp_mono (Q:=fun e a' W=>e= .normal/\(∃u,a'=lfE s t n0 O1 O2 (j0:Int) (k0:Int) true ((m:Int)+1) u)/\EdW s t w n0 O1 O2 G1 G2 j0 k0 (m+1) W) ?next2 ?reg2
          case reg2=>
           refine wp_region_held_drew (S:=KX g1 g2 k0 w5) (by kernel_rfl) hHeld (fun hHeld=>?_);refine tk [0,1,2,3,4,5,6,7,8,9,10,11,12,13,14,15,16,17,18,19,20,21,22] ?_;repeat (refine tkC hHeld (h:=?_);apply exq;(· intro W3 hS3;go_simp;try rfl);try simp only[gS])
           with_reducible refine tkE ?_
           refine rdy 23 (h:=fun K hK=>?_);go_simp;refine hK.out _ _ ?keep (fun hHeld=>?_);clear hK K;try simp only[gS]
           case keep=>exact(KX.refl _ _ _ _).drew.set1 _
           refine tk [24] ?_;repeat (refine tkC hHeld (h:=?_);apply exq;(· intro W3 hS3;go_simp;try rfl);try simp only[gS])
           with_reducible refine tkE ?_
           refine rdy 25 (h:=fun K hK=>?_);go_simp;refine hK.out _ _ ?keep (fun hHeld=>?_);clear hK K;try simp only[gS]
           case keep=>exact((KX.refl _ _ _ _).set1 _).set2 _
           refine tk [26] ?_;repeat (refine tkC hHeld (h:=?_);apply exq;(· intro W3 hS3;go_simp;try rfl);try simp only[gS])
           with_reducible refine tkE ?_
           exact wpAnyH_done (by kernel_rfl) ⟨rfl,a4l rfl,HY.out _⟩ _
          case next2=>
           rintro e a' W6 ⟨rfl,⟨u6,rfl⟩,hE6⟩;unfold lfE;have HE6:=hid hE6;clear hE6;gi_wp2;refine⟨⟨m+1,_,true,⟨by omega,by omega,by rw[HPN.out];rfl,HE6.out⟩,a4l rfl⟩,?_⟩;show 5-((m:Int)+1+1).toNat<5-((m:Int)+1).toNat
           omega
         ·have t9:¬(xc:Int)+(c1:Int)<(bN:Int):=by omega
          have t8:((xc:Int)+(c1:Int)==(bN:Int))=true:=by rw[beq_iff_eq];omega
          have HY:=hid (fun y=>HX2.out bN y HNE.out HBN.out (by simp only[a13];rw[if_neg (by omega)]));clear heq HX1 HX2 HX3;have r1:∀W',KX (G1 j0) (G2 j0) k0 w5 W'->W'.cell? ⟨O2,j0,none⟩=some (.slice (some ⟨G2 j0,0,none⟩) (t.size+1) (t.size+1)):=fun W' h=>h _ _ _ (fun e=>HR1.out.2.2.1 e.1) (fun e=>HR1.out.2.2.2 e.1) q1;have r2:∀W',KX (G1 j0) (G2 j0) k0 w5 W'->W'.cell? ⟨O2,xi,none⟩=some (.slice (some ⟨G2 xi,0,none⟩) (t.size+1) (t.size+1)):=fun W' h=>h _ _ _ (fun e=>HR1.out.2.2.1 e.1) (fun e=>HR1.out.2.2.2 e.1) q3;have r3:∀W',KX (G1 j0) (G2 j0) k0 w5 W'->W'.cell? ⟨G2 xi,xk,none⟩=some (.int .i64 y2):=fun W' h=>h _ _ _ HR2.out.1 HR2.out.2 q5;clear nG;generalize G1 j0=g1 at *;generalize G2 j0=g2 at *;generalize G2 xi=g3 at *;gi_wp2;have hHeld:=HKX.out;refine wpIn_wide.2 ?_;refine Code.wp_mono (Q:=fun e a' W=>e= .normal/\(∃u,a'=lfE s t n0 O1 O2 (j0:Int) (k0:Int) true ((m:Int)+1) u)/\EdW s t w n0 O1 O2 G1 G2 j0 k0 (m+1) W) ?next3 ?reg3
          case reg3=>
           refine wp_region_held_drew (S:=KX g1 g2 k0 w5) (by kernel_rfl) hHeld (fun hHeld=>?_);refine tk [0,1,2,3,4,5,7,8,9,10,11,12,13,14,15,16,17] ?_;repeat (refine tkC hHeld (h:=?_);apply exq;(· intro W3 hS3;go_simp;try rfl);try simp only[gS])
           with_reducible refine tkE ?_
           refine rdy 6 (h:=fun K hK=>?_);go_simp;refine hK.out _ _ ?keep (fun hHeld=>?_);clear hK K;try simp only[gS]
           case keep=>exact(KX.refl _ _ _ _).drew
           refine tk [18,19] ?_;repeat (refine tkC hHeld (h:=?_);apply exq;(· intro W3 hS3;go_simp;try rfl);try simp only[gS])
           with_reducible refine tkE ?_
           refine rdy 20 (h:=fun K hK=>?_);go_simp;refine hK.out _ _ ?keep (fun hHeld=>?_);clear hK K;try simp only[gS]
           case keep=>exact(KX.refl _ _ _ _).drew.set2 _
           exact wpAnyH_done (by kernel_rfl) ⟨rfl,a4l rfl,HY.out _⟩ _
          case next3=>
           rintro e a' W6 ⟨rfl,⟨u6,rfl⟩,hE6⟩;unfold lfE;have HE6:=hid hE6;clear hE6;gi_wp2;refine⟨⟨m+1,_,true,⟨by omega,by omega,by rw[HPN.out];rfl,HE6.out⟩,a4l rfl⟩,?_⟩;show 5-((m:Int)+1+1).toNat<5-((m:Int)+1).toNat
           omega
         have t9:¬(xc:Int)+(c1:Int)<(bN:Int):=by omega
         have t8:((xc:Int)+(c1:Int)==(bN:Int))=false:=by rw[beq_eq_false_iff_ne];omega
         have HY:=hid (HX3.out bN HNE.out HBN.out (by simp only[a13];rw[if_neg (by omega)]));clear hgt HX1 HX2 HX3;gi_wp2;refine⟨⟨m+1,_,true,⟨by omega,by omega,by rw[HPN.out];rfl,HY.out⟩,a4l rfl⟩,?_⟩;show 5-((m:Int)+1+1).toNat<5-((m:Int)+1).toNat
         omega
       have hgt:¬e<=4:=by omega
       have HF:Hid (LfW s t w n0 O1 O2 G1 G2 j0 k0 W4):=hid (HE.out.done HJ.out HQ.out HNB.out);clear he hm;gi_wp2;refine⟨⟨k0,_,⟨by have:=HQ.out;omega,rfl,HF.out⟩,abO rfl⟩,?_⟩;first|(show (((k0:Int)-1)+1).toNat<((k0:Int)+1).toNat;omega)|(simp only[intOf];omega)
theorem aim(s t:ByteArray)(hs:s.size<=20)(ht:t.size<=20)(w:World):
  Calls Tryz.prog 138 #[.string s,.string t,.agg #[.int .i64 1,.int .i64 1]] w (abP s t w):=(callsIn_wide (n:=4)).1 (aju s t hs ht w)
end Go.Proofs.YtdfkaijeppdhaaaGreatDoor
namespace Go.Proofs.YtdfkaijeppdhaaaGreatDoor
open Go
abbrev Rw:=ByteArray×ByteArray×Int
def rsAt(n:ByteArray):List Rw->Nat
 |[]=>0
 |x::r=>if x.1=n then 0 else rsAt n r+1
theorem a56(n:ByteArray):∀l,rsAt n l<=l.length
 |[]=>Nat.le_refl _
 |x::r=>by
  have:=a56 n r;unfold rsAt;split<;>simp only[List.length_cons]<;>omega
theorem a3O(n:ByteArray):∀(l:List Rw) (h:rsAt n l<l.length),(l[rsAt n l]).1=n
 |[],h=>by simp at h
 | x::r,h=>by
  by_cases hx:x.1=n
  ·have e:rsAt n (x::r)=0:=by simp[rsAt,hx]
   simp only[e,List.getElem_cons_zero];exact hx
  have e:rsAt n (x::r)=rsAt n r+1:=by simp[rsAt,hx]
  simp only[e,List.getElem_cons_succ];exact a3O n r (by rw[e]at h;simpa using h)
theorem a2d(n:ByteArray):∀(l:List Rw) (j:Nat) (h:j<l.length),j<rsAt n l->(l[j]).1≠n
 |[],j,h,_=>by simp at h
 |x::r,0,h,hj=>by
  simp only[List.getElem_cons_zero];intro hx;simp[rsAt,hx]at hj
 |x::r,j+1,h,hj=>by
  simp only[List.getElem_cons_succ];by_cases hx:x.1=n
  ·simp[rsAt,hx]at hj
  exact a2d n r j (by simpa using h) (by simp[rsAt,hx]at hj;omega)
theorem a30(n:ByteArray):∀(l:List Rw) (i:Nat),(∀j (h:j<l.length),j<i->(l[j]).1≠n)->(∀h:i<l.length,(l[i]).1=n)->i<=l.length->rsAt n l=i
 |[],i,_,_,h3=>by simp at h3;subst h3;rfl
 |x::r,0,_,h2,_=>by
  have:=h2 (by simp);simp only[List.getElem_cons_zero]at this;simp[rsAt,this]
 | x::r,i+1,h1,h2,h3=>by
  have h0:=h1 0 (by simp) (by omega);simp only[List.getElem_cons_zero]at h0
  have:=a30 n r i (fun j h hj=>by
   have h9:=h1 (j+1) (by simpa using h) (by omega);rw[List.getElem_cons_succ]at h9;exact h9) (fun h=>by
   have h9:=h2 (by simpa using h);rw[List.getElem_cons_succ]at h9;exact h9) (by simpa using h3)
  simp[rsAt,h0,this]
def rsMk(l:List Rw)(n:ByteArray):List Rw:=if rsAt n l<l.length then l else l++[(n,emp,0)]
def a1b(l:List Rw)(n:ByteArray):Rw:=l.getD (rsAt n l) (n,emp,0)
def a09(l:List Rw)(n:ByteArray):ByteArray:=(a1b l n).2.1
def a0A(l:List Rw)(n:ByteArray):Int:=(a1b l n).2.2
def a1Z(l:List Rw)(i:Nat)(t:ByteArray):List Rw:=l.modify i fun x=>(x.1,t,x.2.2)
def a4m(l:List Rw)(i:Nat)(m:Int):List Rw:=l.modify i fun x=>(x.1,x.2.1,m)
theorem a6S(l:List Rw)(n:ByteArray):rsAt n (rsMk l n)=rsAt n l/\rsAt n l<(rsMk l n).length:=by
 unfold rsMk;by_cases h:rsAt n l<l.length
 ·rw[if_pos h];exact⟨rfl,h⟩
 rw[if_neg h];have e:rsAt n l=l.length:=by have:=a56 n l;omega
 refine⟨?_,by rw[e];simp⟩;rw[e];refine a30 n _ _ (fun j hj hlt=>?_) (fun hj=>?_) (by simp)
 ·rw[List.getElem_append_left hlt];exact a2d n l j hlt (by omega)
 simp
theorem a3o(l:List Rw)(n:ByteArray):(rsMk l n).length<=l.length+1:=by
 unfold rsMk;split<;>simp
theorem a2r(l:List Rw)(n m:ByteArray):a1b (rsMk l n) m=a1b l m:=by
 unfold rsMk;by_cases h:rsAt n l<l.length
 ·rw[if_pos h]
 rw[if_neg h];have e:rsAt n l=l.length:=by have:=a56 n l;omega
 unfold a1b;by_cases hm:rsAt m l<l.length
 ·have e2:rsAt m (l++[(n,emp,0)])=rsAt m l:=a30 m _ _ (fun j hj hlt=>by
   rw[List.getElem_append_left (by omega)];exact a2d m l j (by omega) hlt) (fun hj=>by
   rw[List.getElem_append_left hm];exact a3O m l hm) (by simp;omega)
  rw[e2,List.getD_eq_getElem?_getD,List.getD_eq_getElem?_getD,List.getElem?_append_left hm]
 have e3:rsAt m l=l.length:=by have:=a56 m l;omega
 have hr:l.getD (rsAt m l) (m,emp,0)=(m,emp,0):=by rw[e3,List.getD_eq_getElem?_getD,List.getElem?_eq_none (Nat.le_refl _)];rfl
 rw[hr];by_cases hmn:m=n
 ·subst hmn
  have e2:rsAt m (l++[(m,emp,0)])=l.length:=a30 m _ _ (fun j hj hlt=>by
   rw[List.getElem_append_left hlt];exact a2d m l j hlt (by omega)) (fun hj=>by simp) (by simp)
  rw[e2,List.getD_eq_getElem?_getD,List.getElem?_append_right (Nat.le_refl _)];simp
 have e2:rsAt m (l++[(n,emp,0)])=l.length+1:=a30 m _ _ (fun j hj hlt=>by
  by_cases hjl:j<l.length
  ·rw[List.getElem_append_left hjl];exact a2d m l j hjl (by omega)
  have:j=l.length:=by omega
  subst this;simp only[List.getElem_append_right (Nat.le_refl _),Nat.sub_self,List.getElem_cons_zero];exact fun h=>hmn h.symm) (fun hj=>by simp at hj) (by simp)
 rw[e2,List.getD_eq_getElem?_getD,List.getElem?_eq_none (by simp)];rfl
theorem abQ(l:List Rw)(i:Nat)(f:Rw->Rw)(hf:∀x,(f x).1=x.1)(m:ByteArray):rsAt m (l.modify i f)=rsAt m l:=by
 have hlen:(l.modify i f).length=l.length:=List.length_modify ..
 refine a30 m _ _ (fun j hj hlt=>?_) (fun hj=>?_) (by rw[hlen];exact a56 m l)
 ·rw[List.getElem_modify];have:=a2d m l j (by rw[hlen]at hj;exact hj) hlt;split
  ·rw[hf];exact this
  exact this
 rw[List.getElem_modify];have:=a3O m l (by rw[hlen]at hj;exact hj);split
 ·rw[hf];exact this
 exact this
theorem a8J(l:List Rw)(n m:ByteArray)(f:Rw->Rw)(hf:∀x,(f x).1=x.1)(h:rsAt n l<l.length):a1b (l.modify (rsAt n l) f) m=if m=n then f (a1b l n)else a1b l m:=by
 unfold a1b;rw[abQ l _ f hf];by_cases hm:m=n
 ·subst hm;rw[if_pos rfl,List.getD_eq_getElem?_getD,List.getD_eq_getElem?_getD,List.getElem?_eq_getElem (by rw[List.length_modify];exact h),List.getElem?_eq_getElem h,List.getElem_modify];simp
 rw[if_neg hm];by_cases hl:rsAt m l<l.length
 ·rw[List.getD_eq_getElem?_getD,List.getD_eq_getElem?_getD,List.getElem?_eq_getElem (by rw[List.length_modify];exact hl),List.getElem?_eq_getElem hl,List.getElem_modify];rw[if_neg];intro e;have h1:=a3O n l h;have h2:=a3O m l hl;simp only[e]at h1;exact hm (h2.symm.trans h1)
 rw[List.getD_eq_getElem?_getD,List.getD_eq_getElem?_getD,List.getElem?_eq_none (by rw[List.length_modify];omega),List.getElem?_eq_none (by omega)]
def optT(t:ByteArray):Option ByteArray:=if t=emp then none else some t
theorem a3p:optT emp=none:=if_pos rfl
theorem a2s{t:ByteArray}(h:t≠emp):optT t=some t:=if_neg h
def knR(l:List Rw):Kn:=⟨fun n=>optT (a09 l n),fun n=>a0A l n⟩
theorem a6G{a b:Kn}(h1:∀n,a.txt n=b.txt n)(h2:∀n,a.stk n=b.stk n):a=b:=by
 cases a;cases b
 simp only[Kn.mk.injEq];exact⟨funext h1,funext h2⟩
theorem adj(l:List Rw)(n:ByteArray):knR (rsMk l n)=knR l:=by
 refine a6G (fun m=>?_) (fun m=>?_)
 ·simp only[knR,a09,a2r]
 simp only[knR,a0A,a2r]
theorem a42(l:List Rw)(n m t:ByteArray):a1b (a1Z (rsMk l n) (rsAt n l) t) m=if m=n then ((a1b l n).1,t,(a1b l n).2.2)else a1b l m:=by
 obtain⟨h1,h2⟩:=a6S l n;have:=a8J (rsMk l n) n m (fun x=>(x.1,t,x.2.2)) (fun _=>rfl) (by rw[h1];exact h2);rw[h1,a2r,a2r]at this;exact this
theorem a8K(l:List Rw)(n m:ByteArray)(k:Int):a1b (a4m (rsMk l n) (rsAt n l) k) m=if m=n then ((a1b l n).1,(a1b l n).2.1,k)else a1b l m:=by
 obtain⟨h1,h2⟩:=a6S l n;have:=a8J (rsMk l n) n m (fun x=>(x.1,x.2.1,k)) (fun _=>rfl) (by rw[h1];exact h2);rw[h1,a2r,a2r]at this;exact this
def a1c(l:List Rw)(line:ByteArray):(ByteArray×Int)×List Rw:=match a1L line with
 |some (.put n t)=>((t,0),a1Z (rsMk l n) (rsAt n l) t)
 |some (.drop n)=>if a09 l n=emp then ((emp,5),rsMk l n)else ((a09 l n,0),a1Z (rsMk l n) (rsAt n l) emp)
 |some (.add n m)=>((itoaB (a0A l n+m),0),a4m (rsMk l n) (rsAt n l) (a0A l n+m))
 |_=>((emp,100),l)
theorem agT{line n t:ByteArray}(h:a1L line=some (.put n t)):t≠emp:=by
 unfold a1L at h;simp only at h;split at h
 ·cases h
 split at h
 ·split at h
  ·cases h
  rename_i hne
  simp only[Option.some.injEq,Cmd.put.injEq]at h;intro e;rw[<-h.2]at e;exact hne (a8Y (m:=[]) e)
 split at h
 ·split at h<;>cases h
 split at h
 ·split at h<;>cases h
 cases h
theorem a8L(l:List Rw)(line:ByteArray):match a5g line with
  |none=>a1c l line=((emp,100),l)
  |some c=>(a1c l line).1=(sayB c (knR l)).1/\knR (a1c l line).2=(sayB c (knR l)).2:=by
 have hs:=aff line;rw[<-hs];unfold a1c;cases hd:a1L line with
 |none=>rfl
 | some c=>
  have hdd:c.deed=true:=by
   rw[hd]at hs;unfold a5g at hs;split at hs
   ·split at hs
    ·cases hs;assumption
    cases hs
   cases hs
  cases c with
  | put n t=>
   refine⟨rfl,?_⟩;simp only[sayB];have ht:=agT hd;refine a6G (fun m=>?_) (fun m=>?_)
   ·simp only[knR,a09,a42,upd];by_cases e:m=n
    ·simp[e,a2s ht]
    simp[e]
   simp only[knR,a0A,a42];by_cases e:m=n
   ·simp[e]
   simp[e]
  | drop n=>
   by_cases he:a09 l n=emp
   ·have hk:(knR l).txt n=none:=by simp[knR,he,a3p]
    simp only[sayB,hk,if_pos he];exact⟨trivial,adj l n⟩
   have hk:(knR l).txt n=some (a09 l n):=a2s he
   simp only[sayB,hk,if_neg he];refine⟨trivial,a6G (fun m=>?_) (fun m=>?_)⟩
   ·simp only[knR,a09,a42,upd];by_cases e:m=n
    ·simp[e,a3p]
    simp[e]
   simp only[knR,a0A,a42];by_cases e:m=n
   ·simp[e]
   simp[e]
  | add n k=>
   refine⟨rfl,?_⟩;simp only[sayB];refine a6G (fun m=>?_) (fun m=>?_)
   ·simp only[knR,a09,a8K];by_cases e:m=n
    ·simp[e]
    simp[e]
   simp only[knR,a0A,a8K,upd];by_cases e:m=n
   ·simp[e]
   simp[e]
  |stock n=>cases hdd
  |share n ns=>cases hdd
  |asked k ns n=>cases hdd
def a0r:List Ent->List Rw->List Rw
 |[],l=>l
 |e::r,l=>a0r r (a1c l (a05 e)).2
theorem a8M:∀(es:List Ent) (e:Ent) (l:List Rw),a0r (es++[e]) l=(a1c (a0r es l) (a05 e)).2
 |[],_,_=>rfl
 |x::es,e,l=>a8M es e _
theorem aeH(l:List Rw)(line:ByteArray):knR (a1c l line).2=a0D (knR l) line:=by
 have h:=a8L l line;unfold a5g at h;unfold a0D;cases hp:a02 line with
 |none=>rw[hp]at h;simp only at h⊢;rw[h]
 |some c=>
  rw[hp]at h;cases hd:c.deed with
  |false=>simp only[hd]at h⊢;simp only[Bool.false_eq_true,if_false]at h⊢;rw[h]
  |true=>simp only[hd,if_true]at h⊢;exact h.2
theorem a8N:∀(es:List Ent) (l:List Rw),knR (a0r es l)=a1i (knR l) es
 |[],_=>rfl
 |e::es,l=>by
  rw[a0r,a8N es,aeH];rfl
theorem ajv:knR []=kn0:=by
 refine a6G (fun m=>?_) (fun m=>?_)
 ·simp[knR,a09,a1b,kn0,a3p]
 simp[knR,a0A,a1b,kn0]
theorem a5G(es:List Ent):knR (a0r es [])=a06 es:=by rw[a8N,ajv];rfl
theorem agU(l:List Rw)(line:ByteArray):(a1c l line).2.length<=l.length+1:=by
 unfold a1c;split
 ·rw[a1Z,List.length_modify];exact a3o _ _
 ·split
  ·exact a3o _ _
  rw[a1Z,List.length_modify];exact a3o _ _
 ·rw[a4m,List.length_modify];exact a3o _ _
 simp
theorem a1R:∀(es:List Ent) (l:List Rw),(a0r es l).length<=l.length+es.length
 |[],_=>Nat.le_refl _
 |e::es,l=>by
  have h1:=a1R es (a1c l (a05 e)).2
  have h2:=agU l (a05 e);rw[a0r,List.length_cons];omega
theorem aa5{l m:List Ent}(h:fitL l m=true):a18 l m=if l.length<m.length then m else l:=by
 unfold a18;by_cases h1:m.length<l.length
 ·rw[if_pos h1,if_neg (by omega)]
 rw[if_neg h1];by_cases h2:l.length<m.length
 ·rw[if_pos h2]
 rw[if_neg h2];unfold fitL at h;simp only[Bool.or_eq_true,decide_eq_true_eq]at h;rcases h with h|h
 ·exact(h.eq_of_length (by omega)).symm
 exact h.eq_of_length (by omega)
end Go.Proofs.YtdfkaijeppdhaaaGreatDoor
