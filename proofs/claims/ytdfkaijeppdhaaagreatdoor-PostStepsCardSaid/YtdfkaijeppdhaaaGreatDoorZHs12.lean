/- Part of the proof. -/
import Derived.Test.YtdfkaijeppdhaaaGreatDoorZHs11
set_option maxRecDepth 100000
set_option maxHeartbeats 8000000
set_option linter.unusedSimpArgs false
set_option linter.unusedVariables false

namespace Go.Proofs.YtdfkaijeppdhaaaGreatDoor
open Lib (hid)
open Proofs.Tryz Go.RowKit Go.Shelf
theorem a6r:∀(k u:Nat),u<10^(k+1)->Lib.nDigits u<=k+1
 |0,u,h=>by rw[Lib.nDigits_small (by simpa using h)];exact aof _
 |k+1,u,h=>by
  by_cases h1:u<10
  ·rw[Lib.nDigits_small h1];omega
  rw[Lib.nDigits_big h1];have:=a6r k (u / 10) (by rw[Nat.pow_succ]at h;omega);omega
theorem aja{n:Int}(h0: -1000000000<=n)(h1:n<=1000000000):(Lib.itoa n).length<=11:=by
 have hp:(10:Nat)^10=10000000000:=by decide
 unfold Lib.itoa;split
 ·rw[aom,Lib.decDigits_length];have:=a6r 9 n.natAbs om;omega
 rw[Lib.decDigits_length];have:=a6r 9 n.toNat om;omega
theorem a2G{n:Int}(h0: -1000000000<=n)(h1:n<=1000000000):(itoaB n).size<=11:=by
 have:=aja h0 h1;simpa [itoaB,ByteArray.size]using this
theorem ajb{n:Int}(h:n<0):Lib.itoa n=45::Lib.itoa (-n):=by
 unfold Lib.itoa;rw[if_pos h,if_neg om];congr 2;omega
theorem afc{n:Int}(h:0<=n)(h2:n<10):Lib.itoa n=[UInt8.ofNat (48+n.toNat)]:=by
 unfold Lib.itoa;rw[if_neg om,Lib.decDigits_one om]
theorem ajc{n:Int}(h:10<=n):Lib.itoa n=Lib.itoa (n / 10)++[UInt8.ofNat (48+(n % 10).toNat)]:=by
 have h1:¬n.toNat<10:=om;have h2:(n / 10).toNat=n.toNat / 10:=om
 have h3:(n % 10).toNat=n.toNat % 10:=om
 unfold Lib.itoa;rw[if_neg om,if_neg om,h2,h3];conv=>lhs;rw[Lib.decDigits,dif_neg h1]
theorem adP{n:Int}(h0:0<=n)(h1:n<10)(W:World)(b:Nat)(hc:W.cell? ⟨b,0,none⟩=some (.int .u8 (48+n))):
  (convert 65 9 (.slice (some ⟨b,0,none⟩) 1 1)).run prog W= .ok (.string ⟨#[UInt8.ofNat (48+n.toNat)]⟩) W:=by
 have hb8:(UInt8.ofNat (48+n.toNat)).toNat=48+n.toNat:=by rw[UInt8.toNat_ofNat'];omega
 have h:=run_convert_bytes_back (P:=prog) W 65 9 5 ⟨b,0,none⟩ 1 [UInt8.ofNat (48+n.toNat)] underlying65 underlying5 underlying9 (by
  intro j hj;have:j=0:=by simpa using hj
  subst this;simp only[aoP,hb8];have e:(((48+n.toNat:Nat)):Int)=48+n:=om;rw[e];exact hc)
 exact h
theorem a8e(u:Nat):∀(n:Int) (w:World),0<=n->n.toNat<=u->n<=1000000000->
  Calls prog 50 #[.int .i64 n] w fun e w'=>e= .returned (.string (itoaB n))/\Below w.heap.size w w':=by
 induction u using Nat.strongRecOn with
 | _ u ih=>
  intro n w h0 hu h1;have h0':¬n<0:=om;by_cases h:n<10
  ·have E:=hid (afc h0 h);have hcv:=adP h0 h (w.alloc (.cells #[.int .u8 (48+n)] 5)) w.heap.size oz;generalize UInt8.ofNat (48+n.toNat)=bb at *;go_enter func50,ntmps50;go_wp2;go_ret;exact⟨ret_s (by unfold itoaB;rw[E.out]),(aoi _ _).alloc (aof _) _⟩
  have E:=hid (ajc (n:=n) om);have z1:=a2G (n:=n / 10) om om;have z3:(itoaB (n / 10)).size+1<=9223372036854775807:=om
  clear z1;have I1:=hid (fun W=>ih (n / 10).toNat om (n / 10) W om om om);have hm0:0<=n % 10:=om;have hm1:n % 10<10:=om;obtain⟨bb,hbb⟩:∃bb,bb=UInt8.ofNat (48+(n % 10).toNat):=⟨_,rfl⟩
  have hcv:=fun W b=>adP hm0 hm1 W b;rw[<-hbb]at hcv E;clear hbb;clear ih hu;go_enter func50,ntmps50;have htm:n.tmod 10=n % 10:=aq2 h0;have htd:n.tdiv 10=n / 10:=Int.tdiv_eq_ediv_of_nonneg h0;have hw1:IntKind.i64.wrap (n / 10)=n / 10:=IntWalk.i64_in _ om;have hw2:IntKind.i64.wrap (48+n % 10)=48+n % 10:=IntWalk.i64_in _ om;have hw3:IntKind.u8.wrap (48+n % 10)=48+n % 10:=IntWalk.u8_in _ om;go_wp2_with fail
  go_region_with (first
   |(go_at_call 50;have HC:Calls prog 50 #[.int .i64 (n / 10)] w.drew (fun e w'=>e= .returned (.string (itoaB (n / 10)))/\Below w.drew.heap.size w.drew w'):=I1.out _;(with_reducible refine HC.mono ?_);rintro e w1 ⟨rfl,hb1⟩;have hw1:=hb1.size;clear HC)
   |(go_at_call 50;have HC:Calls prog 50 #[.int .i64 (n / 10)] ((w.alloc (.cells #[.int .u8 (48+n % 10)] 5)).drew) (fun e w'=>e= .returned (.string (itoaB (n / 10)))/\Below ((w.alloc (.cells #[.int .u8 (48+n % 10)] 5)).drew).heap.size ((w.alloc (.cells #[.int .u8 (48+n % 10)] 5)).drew) w'):=I1.out _;(with_reducible refine HC.mono ?_);rintro e w1 ⟨rfl,hb1⟩;have hc1:w1.cell? ⟨w.heap.size,0,none⟩=some (.int .u8 (48+n % 10)):=keep_cell hb1 (show ((w.alloc (.cells #[.int .u8 (48+n % 10)] 5)).drew).cell? ⟨w.heap.size,0,none⟩=some (.int .u8 (48+n % 10))from heap_cell (World.alloc_heap_new w (.cells #[.int .u8 (48+n % 10)] 5)) rfl);clear HC)
   |fail)
  all_goals go_wp2
  all_goals go_ret
  all_goals refine⟨ret_s (by unfold itoaB;rw[E.out];apply ba_ext;simp),?_⟩
  ·exact(Below.trans (aoi _ w).drew hb1).alloc (by exact hb1.size) _
  all_goals exact(((aoi _ w).alloc (aof _) _).drew).trans (hb1.mono oz)
theorem a2m(n:Int)(w:World)(h0: -1000000000<=n)(h1:n<=1000000000):
  Calls prog 50 #[.int .i64 n] w fun e w'=>e= .returned (.string (itoaB n))/\Below w.heap.size w w':=by
 by_cases h:n<0
 ·have E:=hid (ajb h);have D:=hid (fun W=>a8e (-n).toNat (-n) W om (aof _) om);have z2:=a2G (n:= -n) om om;have z3:(ByteArray.mk #[45]).size+(itoaB (-n)).size<=9223372036854775807:=by have:(ByteArray.mk #[45]).size=1:=rfl;omega
  have z4:1+(itoaB (-n)).size<=9223372036854775807:=om
  clear z2;go_enter func50,ntmps50;go_wp2_with fail
  refine(D.out _).mono ?_
  rintro e w1 ⟨rfl,hb1⟩;go_wp2;go_ret;exact⟨ret_s (by unfold itoaB;rw[E.out];apply ba_ext;simp),hb1⟩
 exact a8e n.toNat n w om (aof _) h1
theorem abD:∀(l:List UInt8),(32:UInt8)∉l->a09 l=(l,[],false)
 |[],_=>rfl
 |b::r,h=>by
  have hb:(b==32)=false:=by rw[beq_eq_false_iff_ne];rintro rfl;simp at h
  simp[a09,hb,abD r (fun hm=>h (by simp[hm]))]
theorem a2B{s:ByteArray}{k:Nat}(h:k<s.size):s.data.toList.take (k+1)=s.data.toList.take k++[s[k]]:=by
 have h2:k<s.data.toList.length:=by rw[apO];exact h
 rw[aon h2];rfl
theorem drop_byte{s:ByteArray}{k:Nat}(h:k<s.size):s.data.toList.drop k=s[k]::s.data.toList.drop (k+1):=by
 have h2:k<s.data.toList.length:=by rw[apO];exact h
 rw[aoL h2];rfl
theorem u8_eq{b:UInt8}{n:Nat}(hn:n<256):b=UInt8.ofNat n↔b.toNat=n:=by
 constructor
 ·rintro rfl;rw[UInt8.toNat_ofNat'];omega
 intro h;apply UInt8.toNat_inj.1;rw[h,UInt8.toNat_ofNat'];omega
def abE(l:List UInt8)(w:World)(e:Ending)(w':World):Prop:=e= .returned (.tuple #[.string (bsB (a09 l).1),.string (bsB (a09 l).2.1),.bool (a09 l).2.2])/\Below w.heap.size w w'
theorem adQ(s:ByteArray)(w:World)(hs:s.size<=4000000000):Calls prog 67 #[.string s] w (abE s.data.toList w):=by
 have HT0:Hid ((32:UInt8)∉s.data.toList.take 0):=hid oz;go_enter func67,ntmps67;go_wp2;go_loopw [5] (fun i wr=>∃k:Nat,k<=s.size/\i= .int .i64 k/\Hid ((32:UInt8)∉s.data.toList.take k)/\wr=w) (fun i _=>s.size-(intOf i).toNat)
 case atStart=>exact⟨0,om,rfl,HT0,rfl⟩
 case round=>
  obtain⟨k,hk,rfl,HT,rfl⟩:=hrel;by_cases hlt:k<s.size
  ·have hlt2:(k:Int)<(s.size:Int):=om;by_cases h32:s[k].toNat=32
   ·have hb32:((s[k].toNat:Int)==32)=true:=by rw[beq_iff_eq];omega
    have HC:Hid (a09 s.data.toList=(s.data.toList.take k,s.data.toList.drop (k+1),true)):=hid (by
     have hb:s[k]=32:=(u8_eq (n:=32) ox).2 h32
     conv=>lhs;rw[<-ap9 k s.data.toList,drop_byte hlt,hb]
     exact a8c _ _ HT.out)
    have HE:=hid (ba_take s k);have HF:=hid (ba_drop s (k+1));clear h32;go_wp2;go_quiet (fail)
    go_wp2;go_ret3
    refine⟨?_,?_⟩
    ·show Ending.returned (Value.tuple #[.string (s.extract 0 k),.string (s.extract (k+1) s.size),.bool true])=_;rw[HE.out,HF.out,HC.out]
    first|exact a4O (aoi _ _) _|exact aoi _ _
   have hb32:((s[k].toNat:Int)==32)=false:=by rw[beq_eq_false_iff_ne];omega
   have HT2:Hid ((32:UInt8)∉s.data.toList.take (k+1)):=hid (by
    rw[a2B hlt];intro hm;rcases aoI.1 hm with h|h
    ·exact HT.out h
    simp only[apJ]at h;exact h32 (by rw[<-h];rfl))
   clear h32;go_wp2;go_roundw
   case rel=>exact⟨k+1,om,by go_num,HT2,trivial⟩
   case measure=>simp[intOf];omega
  obtain rfl:k=s.size:=om
  have HC:Hid (a09 s.data.toList=(s.data.toList,[],false)):=hid (abD _ (by
   have:=HT.out;rwa[aou (by rw[<-a05];omega)]at this))
  go_wp2;go_ret3
  refine⟨?_,aoi _ _⟩;show Ending.returned (Value.tuple #[.string s,.string ⟨#[]⟩,.bool false])=_;rw[HC.out,a3O];rfl
theorem ajd{s:ByteArray}{k:Nat}(h:k<s.size):a2E (s.data.toList.take (k+1))=a2E (s.data.toList.take k) * 10+(s[k].toNat-48):=by
 rw[a2B h,ac3]
theorem agO{l:List UInt8}(h:l.all a2z=true)(hl:l.length<=9):a2E l<1000000000:=by
 have h1:=afP h;have h2:10^l.length<=10^9:=Nat.pow_le_pow_right om hl;have h3:(10:Nat)^9=1000000000:=by decide
 omega
def natV(o:Option Nat):Value:=match o with
 |some n=>.tuple #[.int .i64 n,.bool true]
 |none=>.tuple #[.int .i64 0,.bool false]
theorem a8f(s:ByteArray)(d:Nat)(w:World)(hd:d<=9)(hs:s.size<=4000000000):
  Calls prog 68 #[.string s,.int .i64 d] w fun e w'=>e= .returned (natV (a0A s.data.toList d))/\w=w':=by
 have hsz:s.data.toList.length=s.size:=(a05 s).symm
 by_cases h1:s.size<1
 ·have h1i:(s.size:Int)<1:=om;have HR:Hid (a0A s.data.toList d=none):=hid (by unfold a0A;rw[if_pos (.inl om)]);clear hsz;go_enter func68,ntmps68;go_wp2;go_ret2;exact⟨by rw[HR.out];rfl,rfl⟩
 have h1i:¬(s.size:Int)<1:=om;by_cases h2:d<s.size
 ·have h2i:(d:Int)<(s.size:Int):=om;have HR:Hid (a0A s.data.toList d=none):=hid (by unfold a0A;rw[if_pos (.inr (.inl om))]);clear hsz;go_enter func68,ntmps68;go_wp2;go_ret2;exact⟨by rw[HR.out];rfl,rfl⟩
 have h2i:¬(d:Int)<(s.size:Int):=om;have h0:0<s.size:=om;have h0i:(0:Int)<(s.size:Int):=om
 have hhead:s.data.toList.headD 0=s[0]:=by
  have:=drop_byte (s:=s) (k:=0) h0;rw[List.drop_zero]at this;rw[this];rfl
 by_cases h3:1<s.size/\s[0].toNat=48
 ·obtain⟨h3a,h3b⟩:=h3;have h3i:(1:Int)<(s.size:Int):=om;have hb:((s[0].toNat:Int)==48)=true:=by rw[beq_iff_eq];omega
  have HR:Hid (a0A s.data.toList d=none):=hid (by
   unfold a0A;rw[if_pos (.inr (.inr ⟨om,by rw[hhead];exact(u8_eq (n:=48) ox).2 h3b⟩))])
  clear hsz hhead h3b;go_enter func68,ntmps68;go_wp2;go_ret2;exact⟨by rw[HR.out];rfl,rfl⟩
 have HR:Hid (a0A s.data.toList d=if s.data.toList.all a2z then some (a2E s.data.toList)else none):=hid (by
  unfold a0A;rw[if_neg];rintro(h|h|⟨ha,hb⟩)
  ·omega
  ·omega
  rw[hhead]at hb;exact h3 ⟨om,(u8_eq (n:=48) ox).1 hb⟩)
 have hguard:((1:Int)<(s.size:Int)/\((s[0].toNat:Int)==48)=false)\/¬(1:Int)<(s.size:Int):=by
  by_cases h4:1<s.size
  ·exact .inl ⟨om,by rw[beq_eq_false_iff_ne];intro e;exact h3 ⟨h4,om⟩⟩
  exact .inr om
 have HD0:Hid ((s.data.toList.take 0).all a2z=true):=hid oz;clear hsz hhead h3;rcases hguard with⟨h4,h5⟩|h4
 all_goals
  go_enter func68,ntmps68;go_wp2;go_loopw [6,7] (fun n i wr=>∃k:Nat,k<=s.size/\i= .int .i64 k/\n= .int .i64 (a2E (s.data.toList.take k):Nat)/\Hid ((s.data.toList.take k).all a2z=true)/\wr=w) (fun _ i _=>s.size-(intOf i).toNat)
  case atStart=>exact⟨0,om,rfl,rfl,HD0,rfl⟩
  case round=>
   obtain⟨k,hk,rfl,rfl,HD,rfl⟩:=hrel;have hv:=agO HD.out (by rw[aoy];omega);by_cases hlt:k<s.size
   ·have hlt2:(k:Int)<(s.size:Int):=om;have HNX:=hid (ajd hlt);by_cases h48:48<=s[k].toNat
    ·have h48i:¬(s[k].toNat:Int)<48:=om;have h48j:(48:Int)<=(s[k].toNat:Int):=om;by_cases h57:s[k].toNat<=57
     ·have h57i:¬(57:Int)<(s[k].toNat:Int):=om;have h57j:(s[k].toNat:Int)<=57:=om
      have HD2:Hid ((s.data.toList.take (k+1)).all a2z=true):=hid (by
       rw[a2B hlt,List.all_append,HD.out];simp[a2z,h48,h57])
      have HM:Hid (10 * ((a2E (s.data.toList.take k):Nat):Int)+((s[k].toNat:Int)-48)=((a2E (s.data.toList.take (k+1)):Nat):Int)):=hid (by
       rw[HNX.out];omega)
      generalize a2E (s.data.toList.take k)=q at *;go_wp2;go_roundw
      case rel=>exact⟨k+1,om,by go_num,by rw[<-HM.out],HD2,trivial⟩
      case measure=>simp[intOf];omega
     have h57i:(57:Int)<(s[k].toNat:Int):=om
     have HR2:Hid (a0A s.data.toList d=none):=hid (by
      rw[HR.out,if_neg];rw[<-ap9 k s.data.toList,drop_byte hlt];simp[a2z,h57])
     clear HNX;go_wp2;go_ret2;exact⟨by rw[HR2.out];rfl,rfl⟩
    have h48i:(s[k].toNat:Int)<48:=om
    have HR2:Hid (a0A s.data.toList d=none):=hid (by
     rw[HR.out,if_neg];rw[<-ap9 k s.data.toList,drop_byte hlt];simp[a2z,h48])
    clear HNX;go_wp2;go_ret2;exact⟨by rw[HR2.out];rfl,rfl⟩
   obtain rfl:k=s.size:=om
   have HR2:Hid (a0A s.data.toList d=some (a2E (s.data.toList.take s.size))):=hid (by
    have h9:s.data.toList.take s.size=s.data.toList:=aou (by rw[<-a05];omega);have h8:=HD.out;rw[h9]at h8⊢;rw[HR.out,if_pos h8])
   go_wp2;go_ret2;exact⟨by rw[HR2.out];rfl,rfl⟩
theorem aax(s:ByteArray)(k:Nat)(h:(s.data.toList.take k).any (fun c=>a1w c.toNat)=false)(hk:k=s.size\/60<s.size):a0n s=decide (s.size<=60):=by
 unfold a0n;rcases hk with rfl|hk
 ·rw[aou (by rw[<-a05];omega)]at h;rw[h];simp
 have:decide (s.size<=60)=false:=by rw[decide_eq_false];omega
 rw[this];rfl
theorem a98(s:ByteArray){k:Nat}(hlt:k<s.size)(h:a1w s[k].toNat=true):a0n s=false:=by
 unfold a0n
 have:(s.data.toList.any fun c=>a1w c.toNat)=true:=by
  rw[<-ap9 k s.data.toList,drop_byte hlt];simp[h]
 rw[this];simp
theorem a1V(s:ByteArray)(w:World)(hs:s.size<=4000000000):
  Calls prog 69 #[.string s] w fun e w'=>e= .returned (.bool (a0n s))/\w=w':=by
 have HT0:Hid ((s.data.toList.take 0).any (fun c=>a1w c.toNat)=false):=hid oz;go_enter func69,ntmps69;go_wp2;go_loopw [3] (fun i wr=>∃k:Nat,k<=s.size/\k<=61/\i= .int .i64 k/\Hid ((s.data.toList.take k).any (fun c=>a1w c.toNat)=false)/\wr=w) (fun i _=>s.size-(intOf i).toNat)
 case atStart=>exact⟨0,om,om,rfl,HT0,rfl⟩
 case round=>
  obtain⟨k,hk,hk61,rfl,HT,rfl⟩:=hrel;by_cases hlt:k<s.size
  ·have hlt2:(k:Int)<(s.size:Int):=om;by_cases hk60:k<=60
   ·have hk60i:(k:Int)<=60:=om;by_cases h32:s[k].toNat<32
    ·have h32i:(s[k].toNat:Int)<32:=om;have HB:=hid (a98 s hlt (by unfold a1w;rw[decide_eq_true h32i];rfl));clear h32;go_wp2;go_ret;exact⟨by rw[HB.out];rfl,rfl⟩
    have h32i:¬(s[k].toNat:Int)<32:=om;by_cases h126:126<s[k].toNat
    ·have h126i:(126:Int)<(s[k].toNat:Int):=om;have HB:=hid (a98 s hlt (by unfold a1w;rw[decide_eq_true h126i];simp));clear h32 h126;go_wp2;go_ret;exact⟨by rw[HB.out];rfl,rfl⟩
    have h126i:¬(126:Int)<(s[k].toNat:Int):=om
    have HT2:Hid ((s.data.toList.take (k+1)).any (fun c=>a1w c.toNat)=false):=hid (by
     rw[a2B hlt,List.any_append,HT.out];simp[a1w];omega)
    clear h32 h126;go_wp2;go_roundw
    case rel=>exact⟨k+1,om,om,by go_num,HT2,trivial⟩
    case measure=>simp[intOf];omega
   have hk60i:¬(k:Int)<=60:=om;have HE:=hid (aax s k HT.out (.inr om));have h60:¬(s.size:Int)<=60:=om;have HD:Hid (decide (s.size<=60)=false):=hid (by rw[decide_eq_false];omega);go_wp2;go_ret;exact⟨by rw[HE.out,HD.out];rfl,rfl⟩
  obtain rfl:k=s.size:=om;have HE:=hid (aax s s.size HT.out (.inl rfl));by_cases h60:s.size<=60
  ·have h60i:(s.size:Int)<=60:=om;have HD:Hid (decide (s.size<=60)=true):=hid (decide_eq_true h60);go_wp2;go_ret;exact⟨by rw[HE.out,HD.out];rfl,rfl⟩
  have h60i:¬(s.size:Int)<=60:=om;have HD:Hid (decide (s.size<=60)=false):=hid (decide_eq_false h60);go_wp2;go_ret;exact⟨by rw[HE.out,HD.out];rfl,rfl⟩
def RfAt(w:World)(P:Nat)(n:Int)(vs:Nat->Value)(b:a00):Prop:=
 w.heap[P]? =some (.cells #[.int .i64 n,vs 0,vs 1,vs 2,vs 3] 54 (0,0))/\∀i,i<4->EntsAt w (vs i) (b i)
theorem RfAt.lt{w:World}{P:Nat}{n:Int}{vs:Nat->Value}{b:a00}(h:RfAt w P n vs b):P<w.heap.size:=(aog.1 h.1).1
theorem RfAt.below{w w':World}{P:Nat}{n:Int}{vs:Nat->Value}{b:a00}(h:RfAt w P n vs b)(hb:Below w.heap.size w w'):RfAt w' P n vs b:=
 ⟨(hb.block _ h.lt).trans h.1,fun i hi=>(h.2 i hi).below hb⟩
theorem RfAt.cell{w:World}{P:Nat}{n:Int}{vs:Nat->Value}{b:a00}(h:RfAt w P n vs b){i:Nat}(hi:i<4):w.cell? ⟨P,1+i,none⟩=some (vs i):=by
 rcases (show i=0\/i=1\/i=2\/i=3 by omega)with rfl|rfl|rfl|rfl<;>exact heap_cell h.1 rfl
theorem EntsAt.shape{w:World}{v:Value}{l:List Ent}(h:EntsAt w v l):∃a cap,v= .slice a l.length cap:=by
 obtain⟨a,cap,rfl,_⟩:=h;exact⟨a,cap,rfl⟩
theorem EntsAt.entry{w:World}{v:Value}{l:List Ent}(h:EntsAt w v l){k:Nat}(hk:k<l.length):∃g off cap,v= .slice (some ⟨g,off,none⟩) l.length cap/\
  w.cell? ⟨g,off+k * 4,none⟩=some (.int .i64 (a07 (l.getD k noE)))/\w.cell? ⟨g,off+k * 4+1,none⟩=some (.int .i64 (a0r (l.getD k noE)))/\
  w.cell? ⟨g,off+k * 4+2,none⟩=some (.int .i64 (a0a (l.getD k noE)))/\w.cell? ⟨g,off+k * 4+3,none⟩=some (.string (a0b (l.getD k noE))):=by
 obtain⟨a,cap,rfl,_,h⟩:=h;obtain⟨g,off,rfl,hc⟩:=h om;have hg:l.getD k noE=l[k]:=by rw[aoh,aoj hk];rfl
 refine⟨g,off,cap,rfl,?_,?_,?_,?_⟩
 ·exact hc k 0 _ om (by rw[a3b l k 0 hk om,hg];rfl)
 ·exact hc k 1 _ om (by rw[a3b l k 1 hk om,hg];rfl)
 ·exact hc k 2 _ om (by rw[a3b l k 2 hk om,hg];rfl)
 exact hc k 3 _ om (by rw[a3b l k 3 hk om,hg];rfl)
def nxC(b:a00)(nx:Nat->Nat)(i:Nat):Int:=a0a ((b i).getD (nx i) noE)
def LeastP(b:a00)(nx:Nat->Nat)(k:Nat)(l:Value):Prop:=
 (l= .int .i64 (-1)/\∀j,j<k->(b j).length<=nx j)\/
 ∃m:Nat,m<k/\l= .int .i64 m/\nx m<(b m).length/\∀j,j<k->j≠m->nx j<(b j).length->nxC b nx m<nxC b nx j\/(nxC b nx m=nxC b nx j/\m<j)
structure BkI(w:World)(nx:Nat->Nat)(out:List Ent)(o:Value)(wr:World):Prop where
 row:wr.ownsRow (w.heap.size+1) 43 4 o out.length (a0i out)
 nxt:wr.heap[w.heap.size]? =some (.cells #[.int .i64 (nx 0:Nat),.int .i64 (nx 1:Nat),.int .i64 (nx 2:Nat),.int .i64 (nx 3:Nat)] 34 (0,0))
 below:Below w.heap.size w wr
theorem BkI.cell{w wr:World}{nx:Nat->Nat}{out:List Ent}{o:Value}(h:BkI w nx out o wr){i:Nat}(hi:i<4):wr.cell? ⟨w.heap.size,i,none⟩=some (.int .i64 (nx i:Nat)):=by
 rcases (show i=0\/i=1\/i=2\/i=3 by omega)with rfl|rfl|rfl|rfl<;>exact heap_cell h.nxt rfl
theorem BkI.lt{w wr:World}{nx:Nat->Nat}{out:List Ent}{o:Value}(h:BkI w nx out o wr):w.heap.size<wr.heap.size:=(aog.1 h.nxt).1
theorem BkI.drewN{w wr:World}{nx:Nat->Nat}{out:List Ent}{o:Value}(h:BkI w nx out o wr)(q:Nat):BkI w nx out o (wr.drewN q):=
 ⟨own_below h.row (a0q (aoi wr.heap.size wr) q),h.nxt,a0q h.below q⟩
theorem amD{X:World}{base b j:Nat}{e:TypeId}{sz:Nat}{v u:Value}{n:Nat}{xs:List Value}(h:X.ownsRow base e sz v n xs)(hb:b<base):(X.setCell ⟨b,j,none⟩ u).ownsRow base e sz v n xs:=by
 refine⟨h.1,?_⟩;rcases h.2 with hn|⟨g,cap,cur,hv,hbg,hg,hrest⟩
 ·exact .inl hn
 exact .inr ⟨g,cap,cur,hv,hbg,(aok _ _ _ _ (by show g≠b;omega)).trans hg,hrest⟩
theorem BkI.next{w W7:World}{nx:Nat->Nat}{out:List Ent}{v':Value}{m:Nat}(hm:m<4)(hrow:W7.ownsRow (w.heap.size+1) 43 4 v' out.length (a0i out))
  (hnxt:W7.heap[w.heap.size]? =some (.cells #[.int .i64 (nx 0:Nat),.int .i64 (nx 1:Nat),.int .i64 (nx 2:Nat),.int .i64 (nx 3:Nat)] 34 (0,0)))(hb:Below w.heap.size w W7):
  BkI w (a67 nx m (nx m+1)) out v' (W7.setCell ⟨w.heap.size,m,none⟩ (.int .i64 ((nx m:Nat)+1:Int))):=by
 refine⟨amD hrow om,?_,hb.setCell (p:=⟨w.heap.size,m,none⟩) (aof _) _⟩;rw[a0K hnxt];rcases (show m=0\/m=1\/m=2\/m=3 by omega)with rfl|rfl|rfl|rfl<;>rfl
def ao4:Value->Nat
 | .slice _ n _=>n
 |_=>0
theorem LeastP.skip{b:a00}{nx:Nat->Nat}{k:Nat}{l:Value}(h:LeastP b nx k l)(hk:¬nx k<(b k).length):LeastP b nx (k+1) l:=by
 rcases h with⟨rfl,hall⟩|⟨m,hm,rfl,hml,hmin⟩
 ·refine .inl ⟨rfl,fun j hj=>?_⟩
  by_cases e:j=k
  ·subst e;omega
  exact hall j om
 refine .inr ⟨m,om,rfl,hml,fun j hj hne hl=>?_⟩
 by_cases e:j=k
 ·subst e;exact absurd hl hk
 exact hmin j om hne hl
theorem LeastP.turn{b:a00}{nx:Nat->Nat}{k m:Nat}(hmin:∀j,j<k->j≠m->nx j<(b j).length->nxC b nx m<nxC b nx j\/(nxC b nx m=nxC b nx j/\m<j))(hk:nx k<(b k).length)(hlt:nxC b nx k<nxC b nx m):LeastP b nx (k+1) (.int .i64 k):=by
 refine .inr ⟨k,om,rfl,hk,fun j hj hne hl=>.inl ?_⟩
 by_cases e:j=m
 ·subst e;exact hlt
 rcases hmin j om e hl with h|h<;>omega
theorem LeastP.stay{b:a00}{nx:Nat->Nat}{k m:Nat}(hm:m<k)(hml:nx m<(b m).length)(hmin:∀j,j<k->j≠m->nx j<(b j).length->nxC b nx m<nxC b nx j\/(nxC b nx m=nxC b nx j/\m<j))(hge:¬nxC b nx k<nxC b nx m):LeastP b nx (k+1) (.int .i64 m):=by
 refine .inr ⟨m,om,rfl,hml,fun j hj hne hl=>?_⟩
 by_cases e:j=k
 ·subst e;by_cases e2:nxC b nx m=nxC b nx j
  ·exact .inr ⟨e2,hm⟩
  exact .inl om
 exact hmin j om hne hl
theorem a8g(P:Nat)(n:Int)(vs:Nat->Value)(b:a00)(w:World)(h:RfAt w P n vs b)(hok:a02 b):
  Calls prog 42 #[.pointer (some ⟨P,0,none⟩)] w (a3t (a06 b) w):=by
 have HRF:=hid h;have HOK:=hid hok;obtain⟨w2,hw2⟩:∃w2,w2=w.alloc (.cells #[.int .i64 0,.int .i64 0,.int .i64 0,.int .i64 0] 34):=⟨_,rfl⟩
 have HI0:Hid (BkI w (fun _=>0) [] (.slice none 0 0) w2):=hid (by
  rw[hw2];exact⟨World.ownsRow_nil _ _ _ _,World.alloc_heap_new w _,(aoi _ w).alloc (aof _) _⟩)
 have HM0:=hid (Mg.start b);have HW2:=hid hw2;clear h hok hw2;go_enter func42,ntmps42;go_wp2_with fail
 rw[<-HW2.out];go_loopw [3] (fun o wr=>∃nx out,Hid (Mg b nx out)/\Hid (BkI w nx out o wr)) (fun o _=>241-ao4 o)
 case atStart=>exact⟨_,_,HM0,HI0⟩
 case round=>
  obtain⟨nx,out,HM,HI⟩:=hrel;have HRW:=hid (HRF.out.below HI.out.below);obtain⟨wo,hwo⟩:∃wo,wo=wr:=⟨_,rfl⟩
  subst hwo;go_wp2_with fail
  go_loopw [5,6] (fun l i wr=>∃k:Nat,k<=4/\i= .int .i64 k/\LeastP b nx k l/\Hid (BkI w nx out u3 wr)) (fun _ i _=>4-(intOf i).toNat)
  case atStart=>exact⟨0,om,rfl,.inl ⟨rfl,fun j hj=>om⟩,HI⟩
  case round=>
   obtain⟨k,hk,rfl,hls,HI⟩:=hrel;have HLS:=hid hls;by_cases hlt:k<4
   ·have hlt2:(k:Int)<4:=om;have HRI:=hid (HRF.out.below HI.out.below);have c1:=HI.out.cell hlt;have c2:=HRI.out.cell hlt;by_cases hless:nx k<(b k).length
    ·obtain⟨g,off,cap,hv,_,_,c3,_⟩:=(HRI.out.2 k hlt).entry hless
     rw[hv]at c2;obtain⟨x,hx⟩:∃x,x=nxC b nx k:=⟨_,rfl⟩
     rw[show a0a ((b k).getD (nx k) noE)=x from hx.symm]at c3;obtain⟨len,hlen⟩:∃len,len=(b k).length:=⟨_,rfl⟩
     rw[<-hlen]at c2 hless;obtain⟨p,hp⟩:∃p,p=nx k:=⟨_,rfl⟩
     rw[<-hp]at c1 c3 hless;have hl2:(p:Int)<(len:Int):=om;have HX:=hid hx;have HLN:=hid hlen;have HP:=hid hp;rcases hls with⟨rfl,hall⟩|⟨m,hm,rfl,hml,hmin⟩
     ·have HNX:Hid (LeastP b nx (k+1) (.int .i64 k)):=hid (.inr ⟨k,om,rfl,by rw[<-hp,<-hlen];exact hless,fun j hj hne hl=>by
       have:=hall j om;omega⟩)
      clear hall hx hlen hp hless hv HLS;go_wp2;go_quiet (fail)
      have HI2:=hid (HI.out.drewN nq);go_wp2;go_roundw
      case rel=>exact⟨k+1,om,by go_num,HNX.out,HI2⟩
      case measure=>simp[intOf];omega
     obtain⟨g2,off2,cap2,hv2,_,_,d3,_⟩:=(HRI.out.2 m om).entry hml
     have d1:=HI.out.cell (i:=m) om;have d2:=HRI.out.cell (i:=m) om;rw[hv2]at d2;obtain⟨y,hy⟩:∃y,y=nxC b nx m:=⟨_,rfl⟩
     rw[show a0a ((b m).getD (nx m) noE)=y from hy.symm]at d3;obtain⟨len2,hlen2⟩:∃len,len=(b m).length:=⟨_,rfl⟩
     obtain⟨p2,hp2⟩:∃p,p=nx m:=⟨_,rfl⟩
     have hml2:(p2:Int)<(len2:Int):=by rw[hp2,hlen2];omega
     rw[<-hlen2]at d2;rw[<-hp2]at d1 d3;have hm4:(m:Int)<4:=om;have hm0:¬(m:Int)<0:=om;by_cases hxy:x<y
     ·have HNX:Hid (LeastP b nx (k+1) (.int .i64 k)):=hid (LeastP.turn hmin (by rw[<-hp,<-hlen];exact hless) (by rw[<-hx,<-hy];exact hxy));clear hmin hx hlen hp hless hv HLS hv2 hy hlen2 hp2 hml;go_wp2;go_quiet (fail)
      have HI2:=hid (HI.out.drewN nq);go_wp2;go_roundw
      case rel=>exact⟨k+1,om,by go_num,HNX.out,HI2⟩
      case measure=>simp[intOf];omega
     have HNX:Hid (LeastP b nx (k+1) (.int .i64 m)):=hid (LeastP.stay hm hml hmin (by rw[<-hx,<-hy];exact hxy));clear hmin hx hlen hp hless hv HLS hv2 hy hlen2 hp2 hml;go_wp2;go_quiet (fail)
     have HI2:=hid (HI.out.drewN nq);go_wp2;go_roundw
     case rel=>exact⟨k+1,om,by go_num,HNX.out,HI2⟩
     case measure=>simp[intOf];omega
    obtain⟨a,cap,hv⟩:=(HRI.out.2 k hlt).shape
    rw[hv]at c2;have HNX:=hid (LeastP.skip hls hless);obtain⟨len,hlen⟩:∃len,len=(b k).length:=⟨_,rfl⟩
    obtain⟨p,hp⟩:∃p,p=nx k:=⟨_,rfl⟩
    have hl2:¬(p:Int)<(len:Int):=by rw[hp,hlen];omega
    have hl3:decide ((p:Int)<(len:Int))=false:=decide_eq_false hl2;have hl4:decide (p<len)=false:=by rw[decide_eq_false];omega
    have hl5:len<=p:=om;rw[<-hlen]at c2;rw[<-hp]at c1;clear hls HLS hv hlen hp hless;go_wp2;go_quiet (fail)
    have HI2:=hid (HI.out.drewN nq);go_wp2;go_roundw
    case rel=>exact⟨k+1,om,by go_num,HNX.out,HI2⟩
    case measure=>simp[intOf];omega
   obtain rfl:k=4:=om;clear HLS;rcases hls with⟨rfl,hall⟩|⟨m,hm,rfl,hml,hmin⟩
   ·have HE:Hid (out=a06 b):=hid (HM.out.done hall);clear hall;go_wp2;go_ret;refine⟨_,rfl,?_,fun j hj=>?_,HI.out.below⟩
    ·rw[<-HE.out];exact a2l HI.out.row (aot _)
    have:=(HI.out.row.lt j hj).1;omega
   have HMI:=hid hmin;clear hmin;have HRI:=hid (HRF.out.below HI.out.below);obtain⟨g2,off2,cap2,hv2,d4,d5,d3,d6⟩:=(HRI.out.2 m hm).entry hml
   have d1:=HI.out.cell hm;have d2:=HRI.out.cell hm;rw[hv2]at d2;obtain⟨e0,he0⟩:∃e0:Ent,e0=(b m).getD (nx m) noE:=⟨_,rfl⟩
   rw[<-he0]at d4 d5 d3 d6;have HE0:Hid (e0=(b m)[nx m]):=hid (by rw[he0,aoh,aoj hml];rfl)
   have HMS:Hid (Mg b (a67 nx m (nx m+1)) (out++[e0])):=hid (by
    rw[HE0.out];refine HM.out.step HOK.out hm hml fun j hj hne hl=>?_;have:=HMI.out j hj hne hl;unfold nxC at this;rw[aoh,aoj hml,aoh,aoj hl]at this;exact this)
   have HLO:Hid (out.length<240):=hid (by
    have h1:=HMS.out.len;have h2:=HMS.out.le;simp only[aol,aom,aow]at h1;have a0:=h2 0 om;have a1:=h2 1 om;have a2:=h2 2 om;have a3:=h2 3 om;have b0:=(HOK.out 0 om).len;have b1:=(HOK.out 1 om).len;have b2:=(HOK.out 2 om).len;have b3:=(HOK.out 3 om).len
    omega)
   obtain⟨oa,oc,rfl⟩:=a5l HI.out.row;obtain⟨ol,hol⟩:∃ol,ol=out.length:=⟨_,rfl⟩
   obtain⟨len2,hlen2⟩:∃len,len=(b m).length:=⟨_,rfl⟩
   obtain⟨p2,hp2⟩:∃p,p=nx m:=⟨_,rfl⟩
   have hml2:(p2:Int)<(len2:Int):=by rw[hp2,hlen2];omega
   rw[<-hlen2]at d2;rw[<-hp2]at d1 d3 d4 d5 d6;have hm4:(m:Int)<4:=om;have hm0:¬(m:Int)<0:=om;have hp240:p2<60:=by have:=(HOK.out m hm).len;omega
   have HOL:=hid hol;have HP2:=hid hp2;rw[<-hol];clear HE0 hv2 he0 hlen2 hp2 hml hol;obtain⟨W6,hW6⟩:∃W6,W6=(wr.alloc (.cells #[.int .i64 (a07 e0),.int .i64 (a0r e0),.int .i64 (a0a e0),.string (a0b e0)] 43)).drew:=⟨_,rfl⟩
   have HX6:Hid (Below wr.heap.size wr W6):=hid (by rw[hW6];exact((aoi _ _).alloc (aof _) _).drew);have HNW:Hid (W6.heap[wr.heap.size]? =some (.cells #[.int .i64 (a07 e0),.int .i64 (a0r e0),.int .i64 (a0a e0),.string (a0b e0)] 43 (0,0))):=hid (by rw[hW6];exact World.alloc_heap_new wr _);have HRO:Hid (wr.ownsRow (w.heap.size+1) 43 4 (.slice oa ol oc) ol (a0i out)):=hid (by have h9:=HI.out.row;rw[<-HOL.out]at h9;exact h9);have HR6:=hid (own_below HRO.out HX6.out);obtain⟨i0,hi0,hz0,hz1,hz2⟩:=info_parts Tryz.infoEnt;have hone:=a3s [e0];have hnl:(a0i [e0]).length=1 * 4:=by rw[a18];rfl
   have HAP:Hid (∀ty,∃v' W',(Builtin.append_ #[40,40] ty #[.slice oa ol oc,.slice (some ⟨wr.heap.size,0,none⟩) 1 1]).run prog W6= .ok v' W'/\(W'.ownsRow (w.heap.size+1) 43 4 v' (ol+1) (a0i out++a0i [e0])/\W6.grownBy W' (Value.slice oa ol oc).ownBlock)):=hid (fun ty=>by
    have h1:=HLO.out;have h2:=HX6.out.size;have h3:=HI.out.lt;obtain⟨v',W',hrun,hown,hgr,_⟩:=run_append_own (P:=prog) (w:=W6) (w.heap.size+1) 40 ty 43 i0 _ 4 40 underlying40 hi0 hz0 hz1 hz2 rfl ox _ _ _ HR6.out ⟨wr.heap.size,0,none⟩ 1 1 (a0i [e0]) hnl (a4Z HNW.out rfl) hone (by rw[HOL.out];unfold maxLen;omega) (by rw[HOL.out];omega) om;exact⟨v',W',hrun,hown,hgr⟩)
   have HW6:=hid hW6;have HLT:=hid (fun g hg=>HRO.out.lt g hg);clear hW6 hone hnl hi0 hz0 hz1 hz2;go_wp2
   go_region_law (first
    |((rw[<-HW6.out];refine a0F oy _ _ _ oy (.slice oa ol oc) (.slice (some ⟨wr.heap.size,0,none⟩) 1 1) oy oy (fun v' W'=>W'.ownsRow (w.heap.size+1) 43 4 v' (ol+1) (a0i out++a0i [e0])/\W6.grownBy W' (Value.slice oa ol oc).ownBlock) (HAP.out _) ?_;intro v' W7 hR;have HR:=hid hR;clear hR))
    |fail)
   all_goals
    obtain⟨hrow7,hgr7⟩:=HR.out;have hn7:=(hgr7.block w.heap.size (aox HI.out.lt HX6.out.size) (fun e=>by have:=(HLT.out _ e.symm).1;omega)).trans ((HX6.out.block w.heap.size HI.out.lt).trans HI.out.nxt)
    have hb7:Below w.heap.size w W7:=(HI.out.below.trans (HX6.out.mono HI.out.below.size)).grown hgr7 (by have:=HI.out.below.size;have:=HX6.out.size;omega) (fun k e=>by have:=(HLT.out k e).1;omega)
    have HI7:Hid (BkI w (a67 nx m (nx m+1)) (out++[e0]) v' (W7.setCell ⟨w.heap.size,m,none⟩ (.int .i64 ((p2:Nat)+1:Int)))):=hid (by
     have h9:=BkI.next hm (out:=out++[e0]) (by rw[aol,a2f,apu,<-HOL.out];exact hrow7) hn7 hb7;rw[<-HP2.out]at h9⊢;exact h9)
    have c7:W7.cell? ⟨w.heap.size,m,none⟩=some (.int .i64 (p2:Nat)):=by
     rw[HP2.out];rcases (show m=0\/m=1\/m=2\/m=3 by omega)with rfl|rfl|rfl|rfl<;>exact heap_cell hn7 rfl
    have f7:W7.frozen? ⟨w.heap.size,m,none⟩=false:=by simp[World.frozen?,hn7]
    obtain⟨va,vc,rfl⟩:=a5l hrow7;clear hrow7 hgr7 hn7 hb7 d1 d2 d3 d4 d5 d6;go_wp2;go_roundw
    case rel=>exact⟨_,_,HMS,HI7⟩
    case measure=>show 241-(ol+1)<241-out.length;have:=HLO.out;have:=HOL.out;omega
theorem afU(x y:Ent)(W:World):(binOp .neq 43 (.agg #[.int .i64 (a07 x),.int .i64 (a0r x),.int .i64 (a0a x),.string (a0b x)]) (.agg #[.int .i64 (a07 y),.int .i64 (a0r y),.int .i64 (a0a y),.string (a0b y)])).run prog W= .ok (.bool (!eqE x y)) W:=neqE.1 x y W
theorem aay{l m:List Ent}{k:Nat}(hl:k<l.length)(hm:k<m.length)(h:l.take k=m.take k)(he:l.getD k noE=m.getD k noE):l.take (k+1)=m.take (k+1):=by
 rw[aoh,aoj hl,aoh,aoj hm]at he;rw[aon hl,aon hm,h];exact congrArg (fun z=>m.take k++[z]) he
theorem aje(v v2:Value)(l m:List Ent)(w:World)(h1:EntsAt w v l)(h2:EntsAt w v2 m)(hl:l.length<=1000):
  Calls prog 31 #[v,v2] w fun e w'=>e= .returned (.bool (decide (l=m)))/\Below w.heap.size w w':=by
 have H1:=hid h1;have H2:=hid h2;obtain⟨a1,c1,rfl⟩:=h1.shape;obtain⟨a2,c2,rfl⟩:=h2.shape;obtain⟨n,hn⟩:∃n,n=l.length:=⟨_,rfl⟩
 obtain⟨n2,hn2⟩:∃n,n=m.length:=⟨_,rfl⟩
 have HN:=hid hn;have HN2:=hid hn2;rw[<-hn,<-hn2];rw[<-hn]at hl;clear h1 h2 hn hn2;by_cases he:n=n2
 ·subst he;go_enter func31,ntmps31;go_wp2;go_loopw [5] (fun i wr=>∃k:Nat,k<=n/\i= .int .i64 k/\Hid (l.take k=m.take k)/\Hid (Below w.heap.size w wr)) (fun i _=>n-(intOf i).toNat)
  case atStart=>exact⟨0,om,rfl,hid oz,hid (aoi _ _)⟩
  case round=>
   obtain⟨k,hk,rfl,HT,HB⟩:=hrel;by_cases hlt:k<n
   ·have hlt2:(k:Int)<(n:Int):=om;have hkl:k<l.length:=by rw[<-HN.out];exact hlt
    have hkm:k<m.length:=by rw[<-HN2.out];exact hlt
    obtain⟨g,o,cc,hv,p1,p2,p3,p4⟩:=(H1.out.below HB.out).entry hkl
    obtain⟨g',o',cc',hv',q1,q2,q3,q4⟩:=(H2.out.below HB.out).entry hkm
    simp only[Value.slice.injEq]at hv hv';obtain⟨rfl,_,rfl⟩:=hv;obtain⟨rfl,_,rfl⟩:=hv';have HTN:=hid (aay hkl hkm HT.out);obtain⟨x,hx⟩:∃x:Ent,x=l.getD k noE:=⟨_,rfl⟩
    obtain⟨y,hy⟩:∃y:Ent,y=m.getD k noE:=⟨_,rfl⟩
    rw[<-hx]at p1 p2 p3 p4;rw[<-hy]at q1 q2 q3 q4;rw[<-hx,<-hy]at HTN;have HX:=hid hx;have HY:=hid hy;have hne:=afU x y;clear hx hy;by_cases hxy:x=y
    ·have HT2:=hid (HTN.out hxy);have hb:eqE x y=true:=(a6z x y).2 hxy
     rw[hb]at hne;clear hxy hb HTN;go_wp2;go_quiet (fail)
     have HB2:=hid (a0q HB.out nq);go_wp2;go_roundw
     case rel=>exact⟨k+1,om,by go_num,HT2,HB2⟩
     case measure=>simp[intOf];omega
    have hb:eqE x y=false:=by rw[Bool.eq_false_iff];exact fun h=>hxy ((a6z x y).1 h)
    have HD:Hid (decide (l=m)=false):=hid (by
     rw[decide_eq_false];intro e;apply hxy;rw[HX.out,HY.out,e])
    rw[hb]at hne;clear hxy hb HTN;go_wp2;go_quiet (fail)
    have HB2:=hid (a0q HB.out nq);go_wp2;go_ret;exact⟨by rw[HD.out];rfl,HB2.out⟩
   obtain rfl:k=n:=om
   have HD:Hid (decide (l=m)=true):=hid (by
    rw[decide_eq_true_iff];have h9:=HT.out;rw[aou (by rw[<-HN.out];exact aof _),aou (by rw[<-HN2.out];exact aof _)]at h9;exact h9)
   go_wp2;go_ret;exact⟨by rw[HD.out];rfl,HB.out⟩
 have hb:((n:Int)==(n2:Int))=false:=by rw[beq_eq_false_iff_ne];omega
 have HD:Hid (decide (l=m)=false):=hid (by
  rw[decide_eq_false];intro e;apply he;rw[HN.out,HN2.out,e])
 go_enter func31,ntmps31;go_wp2;go_ret;exact⟨by rw[HD.out];rfl,aoi _ _⟩
theorem al3(n:Int)(w:World):Calls prog 46 #[.int .i64 n] w fun e w'=>e= .returned (.pointer (some ⟨w.heap.size,0,none⟩))/\
  w'=w.alloc (.cells #[.int .i64 n,.slice none 0 0,.slice none 0 0,.slice none 0 0,.slice none 0 0] 54):=by
 go_enter func46,ntmps46;go_wp2;go_ret;exact⟨rfl,rfl⟩
theorem agP{i:Nat}{l:List Ent}(h:ListOk i l){k:Nat}(hk:k<l.length):a0o (l.take (k+1))=a0a (l.getD k noE)/\(a0o (l.take k)<a0a (l.getD k noE)):=by
 have e:l.take (k+1)=l.take k++[l[k]]:=aon hk;have eg:l.getD k noE=l[k]:=by rw[aoh,aoj hk];rfl
 rw[eg];refine⟨by rw[e,a7O],?_⟩;cases k with
 |zero=>
  have:=(h.own 0 hk).2.2.1
  show (0:Int)<_;omega
 |succ j=>
  have e2:l.take (j+1)=l.take j++[l[j]]:=aon om;rw[e2,a7O];exact apo.1 h.asc j (j+1) om hk om
theorem aaz(P:Nat)(n:Int)(vs:Nat->Value)(b:a00)(w:World)(h:RfAt w P n vs b)(hok:a02 b):
  Calls prog 61 #[.pointer (some ⟨P,0,none⟩)] w fun e w'=>e= .returned (.int .i64 (a1f b))/\w=w':=by
 have H:=hid h;have HOK:=hid hok;clear h hok;go_enter func61,ntmps61;go_wp2;go_loopw [3,4] (fun n i wr=>∃k:Nat,k<=4/\i= .int .i64 k/\n= .int .i64 (a2x b k)/\wr=w) (fun _ i _=>4-(intOf i).toNat)
 case atStart=>exact⟨0,om,rfl,rfl,rfl⟩
 case round=>
  obtain⟨i,hi,rfl,rfl,rfl⟩:=hrel;by_cases hlt:i<4
  ·have hlt2:(i:Int)<4:=om;have c1:=H.out.cell hlt;have HLO:=hid (HOK.out i hlt);obtain⟨a,cap,hv⟩:=(H.out.2 i hlt).shape
   have HEN:=hid (H.out.2 i hlt);rw[hv]at c1 HEN;have HS:=hid (show a2x b (i+1)=max (a2x b i) (a0o (b i))from rfl);have HPOS:=hid (a7Q b i);generalize b i=l at *;generalize a2x b i=m at *;obtain⟨len,hlen⟩:∃len,len=l.length:=⟨_,rfl⟩
   have HLEN:=hid hlen;rw[<-hlen]at c1;have hl60:len<=60:=by rw[hlen];exact HLO.out.len
   clear hlen hv;obtain⟨wo,hwo⟩:∃wo,wo=wr:=⟨_,rfl⟩
   subst hwo;go_wp2;go_loopw [3,5] (fun n j wr=>∃k:Nat,k<=len/\j= .int .i64 k/\n= .int .i64 (max m (a0o (l.take k)))/\wr=wo) (fun _ j _=>len-(intOf j).toNat)
   case atStart=>exact⟨0,om,rfl,by rw[List.take_zero,ac0];have:=HPOS.out;congr 1;omega,rfl⟩
   case round=>
    obtain⟨k,hk,rfl,rfl,rfl⟩:=hrel;by_cases hlk:k<len
    ·have hlk2:(k:Int)<(len:Int):=om;obtain⟨g,off,cap2,hv2,_,_,d3,_⟩:=HEN.out.entry (k:=k) (by rw[<-HLEN.out];exact hlk);simp only[Value.slice.injEq]at hv2;obtain⟨rfl,_,rfl⟩:=hv2;have HT:=hid (agP HLO.out (k:=k) (by rw[<-HLEN.out];exact hlk));generalize l.getD k noE=ex at *
     have HM:Hid (max (max m (a0o (l.take k))) (a0a ex)=max m (a0o (l.take (k+1)))):=hid (by
      have h1:=HT.out.1;have h2:=HT.out.2;rw[h1];omega)
     generalize max m (a0o (l.take k))=mm at *;go_wp2;go_roundw
     case rel=>exact⟨k+1,om,by go_num,by rw[HM.out],trivial⟩
     case measure=>simp[intOf];omega
    obtain rfl:k=len:=om;have HTA:Hid (l.take k=l):=hid (aou (by rw[<-HLEN.out];exact aof _));have HM:Hid (max m (a0o (l.take k))=a2x b (i+1)):=hid (by rw[HTA.out,HS.out]);generalize max m (a0o (l.take k))=mm at *;go_wp2;go_roundw
    case rel=>exact⟨i+1,om,by go_num,by rw[HM.out],trivial⟩
    case measure=>simp[intOf];omega
  have e:i=4:=om;subst e;go_wp2;go_ret;exact⟨by rw[afM];rfl,rfl⟩
theorem agQ{l m:List Ent}:l<+:m↔l.length<=m.length/\l=m.take l.length:=by
 constructor
 ·intro h;exact⟨h.length_le,by rw[<-apw];exact h⟩
 rintro⟨_,h⟩;rw[apw];exact h
theorem a99(v v2:Value)(l m:List Ent)(w:World)(h1:EntsAt w v l)(h2:EntsAt w v2 m)(hl:l.length<=1000):
  Calls prog 58 #[v,v2] w fun e w'=>e= .returned (.bool (decide (l<+:m)))/\Below w.heap.size w w':=by
 have H1:=hid h1;have H2:=hid h2;obtain⟨a1,c1,rfl⟩:=h1.shape;obtain⟨a2,c2,rfl⟩:=h2.shape;obtain⟨n,hn⟩:∃n,n=l.length:=⟨_,rfl⟩
 obtain⟨n2,hn2⟩:∃n,n=m.length:=⟨_,rfl⟩
 have HN:=hid hn;have HN2:=hid hn2;rw[<-hn,<-hn2];rw[<-hn]at hl;clear h1 h2 hn hn2;go_enter func58,ntmps58;go_wp2;go_loopw [5] (fun i wr=>∃k:Nat,k<=n/\k<=n2/\i= .int .i64 k/\Hid (l.take k=m.take k)/\Hid (Below w.heap.size w wr)) (fun i _=>n-(intOf i).toNat)
 case atStart=>exact⟨0,om,om,rfl,hid oz,hid (aoi _ _)⟩
 case round=>
  obtain⟨k,hk,hk2,rfl,HT,HB⟩:=hrel;by_cases hlt:k<n
  ·have hlt2:(k:Int)<(n:Int):=om;by_cases hlm:k<n2
   ·have hlm2:(k:Int)<(n2:Int):=om;have hkl:k<l.length:=by rw[<-HN.out];exact hlt
    have hkm:k<m.length:=by rw[<-HN2.out];exact hlm
    obtain⟨g,o,cc,hv,p1,p2,p3,p4⟩:=(H1.out.below HB.out).entry hkl
    obtain⟨g',o',cc',hv',q1,q2,q3,q4⟩:=(H2.out.below HB.out).entry hkm
    simp only[Value.slice.injEq]at hv hv';obtain⟨rfl,_,rfl⟩:=hv;obtain⟨rfl,_,rfl⟩:=hv';have HTN:=hid (aay hkl hkm HT.out);obtain⟨x,hx⟩:∃x:Ent,x=l.getD k noE:=⟨_,rfl⟩
    obtain⟨y,hy⟩:∃y:Ent,y=m.getD k noE:=⟨_,rfl⟩
    rw[<-hx]at p1 p2 p3 p4;rw[<-hy]at q1 q2 q3 q4;rw[<-hx,<-hy]at HTN;have HX:=hid hx;have HY:=hid hy;have hne:=afU x y;clear hx hy;by_cases hxy:x=y
    ·have HT2:=hid (HTN.out hxy);have hb:eqE x y=true:=(a6z x y).2 hxy
     rw[hb]at hne;clear hxy hb HTN;go_wp2;go_quiet (fail)
     have HB2:=hid (a0q HB.out nq);go_wp2;go_roundw
     case rel=>exact⟨k+1,om,om,by go_num,HT2,HB2⟩
     case measure=>simp[intOf];omega
    have hb:eqE x y=false:=by rw[Bool.eq_false_iff];exact fun h=>hxy ((a6z x y).1 h)
    have HD:Hid (decide (l<+:m)=false):=hid (by
     rw[decide_eq_false];intro e;apply hxy;obtain⟨r,rfl⟩:=e;rw[HX.out,HY.out,aoh,aoh,apn hkl])
    rw[hb]at hne;clear hxy hb HTN;go_wp2;go_quiet (fail)
    have HB2:=hid (a0q HB.out nq);go_wp2;go_ret;exact⟨by rw[HD.out];rfl,HB2.out⟩
   obtain rfl:k=n2:=om;have hlm2:¬(k:Int)<(k:Int):=om;have hle:¬(n:Int)<=(k:Int):=om
   have HD:Hid (decide (l<+:m)=false):=hid (by
    rw[decide_eq_false];intro e;have:=e.length_le;rw[<-HN.out,<-HN2.out]at this;omega)
   go_wp2;go_ret;exact⟨by rw[HD.out];rfl,HB.out⟩
  obtain rfl:k=n:=om;have hlt2:¬(k:Int)<(k:Int):=om;have hle:(k:Int)<=(n2:Int):=om
  have HD:Hid (decide (l<+:m)=true):=hid (by
   rw[decide_eq_true_iff,agQ];refine⟨by rw[<-HN.out,<-HN2.out];exact hk2,?_⟩;have h9:=HT.out;rw[aou (by rw[<-HN.out];exact aof _)]at h9;rw[<-HN.out];exact h9)
  go_wp2;go_ret;exact⟨by rw[HD.out];rfl,HB.out⟩
open Go
abbrev Rw:=ByteArray×ByteArray×Int
def a0g(n:ByteArray):List Rw->Nat
 |[]=>0
 |x::r=>if x.1=n then 0 else a0g n r+1
theorem a6B(n:ByteArray):∀l,a0g n l<=l.length
 |[]=>aof _
 |x::r=>by
  have:=a6B n r;unfold a0g;split<;>simp only[aom]<;>omega
theorem a56(n:ByteArray):∀(l:List Rw) (h:a0g n l<l.length),(l[a0g n l]).1=n
 |[],h=>by simp at h
 | x::r,h=>by
  by_cases hx:x.1=n
  ·have e:a0g n (x::r)=0:=by simp[a0g,hx]
   simp only[e,aoP];exact hx
  have e:a0g n (x::r)=a0g n r+1:=by simp[a0g,hx]
  simp only[e,apd];exact a56 n r (by rw[e]at h;simpa using h)
theorem a3f(n:ByteArray):∀(l:List Rw) (j:Nat) (h:j<l.length),j<a0g n l->(l[j]).1≠n
 |[],j,h,_=>by simp at h
 |x::r,0,h,hj=>by
  simp only[aoP];intro hx;simp[a0g,hx]at hj
 |x::r,j+1,h,hj=>by
  simp only[apd];by_cases hx:x.1=n
  ·simp[a0g,hx]at hj
  exact a3f n r j (by simpa using h) (by simp[a0g,hx]at hj;omega)
theorem a4g(n:ByteArray):∀(l:List Rw) (i:Nat),(∀j (h:j<l.length),j<i->(l[j]).1≠n)->(∀h:i<l.length,(l[i]).1=n)->i<=l.length->a0g n l=i
 |[],i,_,_,h3=>by simp at h3;subst h3;rfl
 |x::r,0,_,h2,_=>by
  have:=h2 oz;simp only[aoP]at this;simp[a0g,this]
 | x::r,i+1,h1,h2,h3=>by
  have h0:=h1 0 oz om;simp only[aoP]at h0
  have:=a4g n r i (fun j h hj=>by
   have h9:=h1 (j+1) (by simpa using h) om;rw[apd]at h9;exact h9) (fun h=>by
   have h9:=h2 (by simpa using h);rw[apd]at h9;exact h9) (by simpa using h3)
  simp[a0g,h0,this]
def a0G(l:List Rw)(n:ByteArray):List Rw:=if a0g n l<l.length then l else l++[(n,emp,0)]
def a1O(l:List Rw)(n:ByteArray):Rw:=l.getD (a0g n l) (n,emp,0)
def a0j(l:List Rw)(n:ByteArray):ByteArray:=(a1O l n).2.1
def a0X(l:List Rw)(n:ByteArray):Int:=(a1O l n).2.2
def a38(l:List Rw)(i:Nat)(t:ByteArray):List Rw:=l.modify i fun x=>(x.1,t,x.2.2)
def a5G(l:List Rw)(i:Nat)(m:Int):List Rw:=l.modify i fun x=>(x.1,x.2.1,m)
theorem a8S(l:List Rw)(n:ByteArray):a0g n (a0G l n)=a0g n l/\a0g n l<(a0G l n).length:=by
 unfold a0G;by_cases h:a0g n l<l.length
 ·rw[if_pos h];exact⟨rfl,h⟩
 rw[if_neg h];have e:a0g n l=l.length:=by have:=a6B n l;omega
 refine⟨?_,by rw[e];simp⟩;rw[e];refine a4g n _ _ (fun j hj hlt=>?_) (fun hj=>?_) oz
 ·rw[apA hlt];exact a3f n l j hlt om
 simp
theorem a4B(l:List Rw)(n:ByteArray):(a0G l n).length<=l.length+1:=by
 unfold a0G;split<;>simp
theorem a3u(l:List Rw)(n m:ByteArray):a1O (a0G l n) m=a1O l m:=by
 unfold a0G;by_cases h:a0g n l<l.length
 ·rw[if_pos h]
 rw[if_neg h];have e:a0g n l=l.length:=by have:=a6B n l;omega
 unfold a1O;by_cases hm:a0g m l<l.length
 ·have e2:a0g m (l++[(n,emp,0)])=a0g m l:=a4g m _ _ (fun j hj hlt=>by
   rw[apA om];exact a3f m l j om hlt) (fun hj=>by
   rw[apA hm];exact a56 m l hm) km
  rw[e2,aoh,aoh,apn hm]
 have e3:a0g m l=l.length:=by have:=a6B m l;omega
 have hr:l.getD (a0g m l) (m,emp,0)=(m,emp,0):=by rw[e3,aoh,apa (aof _)];rfl
 rw[hr];by_cases hmn:m=n
 ·subst hmn
  have e2:a0g m (l++[(m,emp,0)])=l.length:=a4g m _ _ (fun j hj hlt=>by
   rw[apA hlt];exact a3f m l j hlt om) (fun hj=>by simp) oz
  rw[e2,aoh,aoX (aof _)];simp
 have e2:a0g m (l++[(n,emp,0)])=l.length+1:=a4g m _ _ (fun j hj hlt=>by
  by_cases hjl:j<l.length
  ·rw[apA hjl];exact a3f m l j hjl om
  have:j=l.length:=om;subst this;simp only[List.getElem_append_right (aof _),aq8,aoP];exact fun h=>hmn h.symm) (fun hj=>by simp at hj) oz
 rw[e2,aoh,apa oz];rfl
theorem adR(l:List Rw)(i:Nat)(f:Rw->Rw)(hf:∀x,(f x).1=x.1)(m:ByteArray):a0g m (l.modify i f)=a0g m l:=by
 have hlen:(l.modify i f).length=l.length:=apK ..
 refine a4g m _ _ (fun j hj hlt=>?_) (fun hj=>?_) (by rw[hlen];exact a6B m l)
 ·rw[apP];have:=a3f m l j (by rw[hlen]at hj;exact hj) hlt;split
  ·rw[hf];exact this
  exact this
 rw[apP];have:=a56 m l (by rw[hlen]at hj;exact hj);split
 ·rw[hf];exact this
 exact this
theorem aaA(l:List Rw)(n m:ByteArray)(f:Rw->Rw)(hf:∀x,(f x).1=x.1)(h:a0g n l<l.length):a1O (l.modify (a0g n l) f) m=if m=n then f (a1O l n)else a1O l m:=by
 unfold a1O;rw[adR l _ f hf];by_cases hm:m=n
 ·subst hm;rw[if_pos rfl,aoh,aoh,aoj (by rw[apK];exact h),aoj h,apP];simp
 rw[if_neg hm];by_cases hl:a0g m l<l.length
 ·rw[aoh,aoh,aoj (by rw[apK];exact hl),aoj hl,apP];rw[if_neg];intro e;have h1:=a56 n l h;have h2:=a56 m l hl;simp only[e]at h1;exact hm (h2.symm.trans h1)
 rw[aoh,aoh,apa (by rw[apK];omega),apa om]
def al4(t:ByteArray):Option ByteArray:=if t=emp then none else some t
theorem a4C:al4 emp=none:=if_pos rfl
theorem a3v{t:ByteArray}(h:t≠emp):al4 t=some t:=if_neg h
def knR(l:List Rw):Kn:=⟨fun n=>al4 (a0j l n),fun n=>a0X l n⟩
theorem a8h{a b:Kn}(h1:∀n,a.txt n=b.txt n)(h2:∀n,a.stk n=b.stk n):a=b:=by
 cases a;cases b
 simp only[Kn.mk.injEq];exact⟨funext h1,funext h2⟩
theorem afV(l:List Rw)(n:ByteArray):knR (a0G l n)=knR l:=by
 refine a8h (fun m=>?_) (fun m=>?_)
 ·simp only[knR,a0j,a3u]
 simp only[knR,a0X,a3u]
theorem a5o(l:List Rw)(n m t:ByteArray):a1O (a38 (a0G l n) (a0g n l) t) m=if m=n then ((a1O l n).1,t,(a1O l n).2.2)else a1O l m:=by
 obtain⟨h1,h2⟩:=a8S l n;have:=aaA (a0G l n) n m (fun x=>(x.1,t,x.2.2)) (fun _=>rfl) (by rw[h1];exact h2);rw[h1,a3u,a3u]at this;exact this
theorem aaB(l:List Rw)(n m:ByteArray)(k:Int):a1O (a5G (a0G l n) (a0g n l) k) m=if m=n then ((a1O l n).1,(a1O l n).2.1,k)else a1O l m:=by
 obtain⟨h1,h2⟩:=a8S l n;have:=aaA (a0G l n) n m (fun x=>(x.1,x.2.1,k)) (fun _=>rfl) (by rw[h1];exact h2);rw[h1,a3u,a3u]at this;exact this
def a1P(l:List Rw)(line:ByteArray):(ByteArray×Int)×List Rw:=match a2N line with
 |some (.put n t)=>((t,0),a38 (a0G l n) (a0g n l) t)
 |some (.drop n)=>if a0j l n=emp then ((emp,5),a0G l n)else ((a0j l n,0),a38 (a0G l n) (a0g n l) emp)
 |some (.add n m)=>((itoaB (a0X l n+m),0),a5G (a0G l n) (a0g n l) (a0X l n+m))
 |_=>((emp,100),l)
theorem ajf{line n t:ByteArray}(h:a2N line=some (.put n t)):t≠emp:=by
 unfold a2N at h;simp only at h;split at h
 ·cases h
 split at h
 ·split at h
  ·cases h
  rename_i hne
  simp only[Option.some.injEq,Cmd.put.injEq]at h;intro e;rw[<-h.2]at e;exact hne (afJ (m:=[]) e)
 split at h
 ·split at h<;>cases h
 split at h
 ·split at h<;>cases h
 cases h
theorem aaC(l:List Rw)(line:ByteArray):match a6W line with
  |none=>a1P l line=((emp,100),l)
  |some c=>(a1P l line).1=(a19 c (knR l)).1/\knR (a1P l line).2=(a19 c (knR l)).2:=by
 have hs:=aiq line;rw[<-hs];unfold a1P;cases hd:a2N line with
 |none=>rfl
 | some c=>
  have hdd:c.deed=true:=by
   rw[hd]at hs;unfold a6W at hs;split at hs
   ·split at hs
    ·cases hs;assumption
    cases hs
   cases hs
  cases c with
  | put n t=>
   refine⟨rfl,?_⟩;simp only[a19];have ht:=ajf hd;refine a8h (fun m=>?_) (fun m=>?_)
   ·simp only[knR,a0j,a5o,upd];by_cases e:m=n
    ·simp[e,a3v ht]
    simp[e]
   simp only[knR,a0X,a5o];by_cases e:m=n
   ·simp[e]
   simp[e]
  | drop n=>
   by_cases he:a0j l n=emp
   ·have hk:(knR l).txt n=none:=by simp[knR,he,a4C]
    simp only[a19,hk,if_pos he];exact⟨trivial,afV l n⟩
   have hk:(knR l).txt n=some (a0j l n):=a3v he
   simp only[a19,hk,if_neg he];refine⟨trivial,a8h (fun m=>?_) (fun m=>?_)⟩
   ·simp only[knR,a0j,a5o,upd];by_cases e:m=n
    ·simp[e,a4C]
    simp[e]
   simp only[knR,a0X,a5o];by_cases e:m=n
   ·simp[e]
   simp[e]
  | add n k=>
   refine⟨rfl,?_⟩;simp only[a19];refine a8h (fun m=>?_) (fun m=>?_)
   ·simp only[knR,a0j,aaB];by_cases e:m=n
    ·simp[e]
    simp[e]
   simp only[knR,a0X,aaB,upd];by_cases e:m=n
   ·simp[e]
   simp[e]
  |stock n=>cases hdd
  |share n ns=>cases hdd
  |asked k ns n=>cases hdd
def a0M:List Ent->List Rw->List Rw
 |[],l=>l
 |e::r,l=>a0M r (a1P l (a0b e)).2
theorem aaD:∀(es:List Ent) (e:Ent) (l:List Rw),a0M (es++[e]) l=(a1P (a0M es l) (a0b e)).2
 |[],_,_=>rfl
 |x::es,e,l=>aaD es e _
theorem agR(l:List Rw)(line:ByteArray):knR (a1P l line).2=a10 (knR l) line:=by
 have h:=aaC l line;unfold a6W at h;unfold a10;cases hp:a08 line with
 |none=>rw[hp]at h;simp only at h⊢;rw[h]
 |some c=>
  rw[hp]at h;cases hd:c.deed with
  |false=>simp only[hd]at h⊢;simp only[Bool.false_eq_true,if_false]at h⊢;rw[h]
  |true=>simp only[hd,if_true]at h⊢;exact h.2
theorem aaE:∀(es:List Ent) (l:List Rw),knR (a0M es l)=a1Z (knR l) es
 |[],_=>rfl
 |e::es,l=>by
  rw[a0M,aaE es,agR];rfl
theorem amE:knR []=kn0:=by
 refine a8h (fun m=>?_) (fun m=>?_)
 ·simp[knR,a0j,a1O,kn0,a4C]
 simp[knR,a0X,a1O,kn0]
theorem a7a(es:List Ent):knR (a0M es [])=a0e es:=by rw[aaE,amE];rfl
theorem ajg(l:List Rw)(line:ByteArray):(a1P l line).2.length<=l.length+1:=by
 unfold a1P;split
 ·rw[a38,apK];exact a4B _ _
 ·split
  ·exact a4B _ _
  rw[a38,apK];exact a4B _ _
 ·rw[a5G,apK];exact a4B _ _
 simp
theorem a2S:∀(es:List Ent) (l:List Rw),(a0M es l).length<=l.length+es.length
 |[],_=>aof _
 |e::es,l=>by
  have h1:=a2S es (a1P l (a0b e)).2
  have h2:=ajg l (a0b e);rw[a0M,aom];omega
theorem aci{l m:List Ent}(h:a0R l m=true):a1g l m=if l.length<m.length then m else l:=by
 unfold a1g;by_cases h1:m.length<l.length
 ·rw[if_pos h1,if_neg om]
 rw[if_neg h1];by_cases h2:l.length<m.length
 ·rw[if_pos h2]
 rw[if_neg h2];unfold a0R at h;simp only[Bool.or_eq_true,decide_eq_true_eq]at h;rcases h with h|h
 ·exact(h.eq_of_length om).symm
 exact h.eq_of_length om
end Go.Proofs.YtdfkaijeppdhaaaGreatDoor
