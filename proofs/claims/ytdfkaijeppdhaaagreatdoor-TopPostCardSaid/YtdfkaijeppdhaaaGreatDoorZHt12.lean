/- Part of the proof. -/
import Derived.Test.YtdfkaijeppdhaaaGreatDoorZHt11
set_option maxRecDepth 100000
set_option maxHeartbeats 8000000
set_option linter.unusedSimpArgs false
set_option linter.unusedVariables false

namespace Go.Proofs.YtdfkaijeppdhaaaGreatDoor
open Go.RowKit Go.Shelf
open Lib (hid)
theorem a5d:∀(k u:Nat),u<10^(k+1)->Lib.nDigits u<=k+1
 |0,u,h=>by rw[Lib.nDigits_small (by simpa using h)];exact aly _
 |k+1,u,h=>by
  by_cases h1:u<10
  ·rw[Lib.nDigits_small h1];omega
  rw[Lib.nDigits_big h1];have:=a5d k (u / 10) (by rw[Nat.pow_succ]at h;omega);omega
theorem ahf{n:Int}(h0: -1000000000<=n)(h1:n<=1000000000):(Lib.itoa n).length<=11:=by
 have hp:(10:Nat)^10=10000000000:=by decide
 unfold Lib.itoa;split
 ·rw[alB,Lib.decDigits_length];have:=a5d 9 n.natAbs (by omega);omega
 rw[Lib.decDigits_length];have:=a5d 9 n.toNat (by omega);omega
theorem a26{n:Int}(h0: -1000000000<=n)(h1:n<=1000000000):(itoaB n).size<=11:=by
 have:=ahf h0 h1;simpa [itoaB,ByteArray.size]using this
theorem ahg{n:Int}(h:n<0):Lib.itoa n=45::Lib.itoa (-n):=by
 unfold Lib.itoa;rw[if_pos h,if_neg (by omega)];congr 2;omega
theorem adh{n:Int}(h:0<=n)(h2:n<10):Lib.itoa n=[UInt8.ofNat (48+n.toNat)]:=by
 unfold Lib.itoa;rw[if_neg (by omega),Lib.decDigits_one (by omega)]
theorem ahh{n:Int}(h:10<=n):Lib.itoa n=Lib.itoa (n / 10)++[UInt8.ofNat (48+(n % 10).toNat)]:=by
 have h1:¬n.toNat<10:=by omega
 have h2:(n / 10).toNat=n.toNat / 10:=by omega
 have h3:(n % 10).toNat=n.toNat % 10:=by omega
 unfold Lib.itoa;rw[if_neg (by omega),if_neg (by omega),h2,h3];conv=>lhs;rw[Lib.decDigits,dif_neg h1]
theorem ac2{n:Int}(h0:0<=n)(h1:n<10)(W:World)(b:Nat)(hc:W.cell? ⟨b,0,none⟩=some (.int .u8 (48+n))):
  (convert 65 9 (.slice (some ⟨b,0,none⟩) 1 1)).run Tryz.prog W= .ok (.string ⟨#[UInt8.ofNat (48+n.toNat)]⟩) W:=by
 have hb8:(UInt8.ofNat (48+n.toNat)).toNat=48+n.toNat:=by rw[UInt8.toNat_ofNat'];omega
 have h:=run_convert_bytes_back (P:=Tryz.prog) W 65 9 5 ⟨b,0,none⟩ 1 [UInt8.ofNat (48+n.toNat)] Tryz.underlying65 Tryz.underlying5 Tryz.underlying9 (by
  intro j hj;have:j=0:=by simpa using hj
  subst this;simp only[am1,hb8];have e:(((48+n.toNat:Nat)):Int)=48+n:=by omega
  rw[e];exact hc)
 exact h
theorem a6K(u:Nat):∀(n:Int) (w:World),0<=n->n.toNat<=u->n<=1000000000->
  Calls Tryz.prog 50 #[.int .i64 n] w fun e w'=>e= .returned (.string (itoaB n))/\Below w.heap.size w w':=by
 induction u using Nat.strongRecOn with
 | _ u ih=>
  intro n w h0 hu h1;have h0':¬n<0:=by omega
  by_cases h:n<10
  ·have E:=hid (adh h0 h);have hcv:=ac2 h0 h (w.alloc (.cells #[.int .u8 (48+n)] 5)) w.heap.size (by simp);generalize UInt8.ofNat (48+n.toNat)=bb at *;go_enter Tryz.func50,Tryz.ntmps50;go_wp2;go_ret;exact⟨ret_s (by unfold itoaB;rw[E.out]),(apC _ _).alloc (aly _) _⟩
  have E:=hid (ahh (n:=n) (by omega));have z1:=a26 (n:=n / 10) (by omega) (by omega);have z3:(itoaB (n / 10)).size+1<=9223372036854775807:=by omega
  clear z1;have I1:=hid (fun W=>ih (n / 10).toNat (by omega) (n / 10) W (by omega) (by omega) (by omega));have hm0:0<=n % 10:=by omega
  have hm1:n % 10<10:=by omega
  obtain⟨bb,hbb⟩:∃bb,bb=UInt8.ofNat (48+(n % 10).toNat):=⟨_,rfl⟩
  have hcv:=fun W b=>ac2 hm0 hm1 W b;rw[<-hbb]at hcv E;clear hbb;clear ih hu;go_enter Tryz.func50,Tryz.ntmps50;have htm:n.tmod 10=n % 10:=amT h0;have htd:n.tdiv 10=n / 10:=Int.tdiv_eq_ediv_of_nonneg h0;have hw1:IntKind.i64.wrap (n / 10)=n / 10:=IntWalk.i64_in _ (by omega);have hw2:IntKind.i64.wrap (48+n % 10)=48+n % 10:=IntWalk.i64_in _ (by omega);have hw3:IntKind.u8.wrap (48+n % 10)=48+n % 10:=IntWalk.u8_in _ (by omega);go_wp2_with fail
  go_region_with (first
   |(go_at_call 50;have HC:Calls Tryz.prog 50 #[.int .i64 (n / 10)] w.drew (fun e w'=>e= .returned (.string (itoaB (n / 10)))/\Below w.drew.heap.size w.drew w'):=I1.out _;(with_reducible refine HC.mono ?_);rintro e w1 ⟨rfl,hb1⟩;have hw1:=hb1.size;clear HC)
   |(go_at_call 50;have HC:Calls Tryz.prog 50 #[.int .i64 (n / 10)] ((w.alloc (.cells #[.int .u8 (48+n % 10)] 5)).drew) (fun e w'=>e= .returned (.string (itoaB (n / 10)))/\Below ((w.alloc (.cells #[.int .u8 (48+n % 10)] 5)).drew).heap.size ((w.alloc (.cells #[.int .u8 (48+n % 10)] 5)).drew) w'):=I1.out _;(with_reducible refine HC.mono ?_);rintro e w1 ⟨rfl,hb1⟩;have hc1:w1.cell? ⟨w.heap.size,0,none⟩=some (.int .u8 (48+n % 10)):=keep_cell hb1 (show ((w.alloc (.cells #[.int .u8 (48+n % 10)] 5)).drew).cell? ⟨w.heap.size,0,none⟩=some (.int .u8 (48+n % 10))from heap_cell (World.alloc_heap_new w (.cells #[.int .u8 (48+n % 10)] 5)) rfl);clear HC)
   |fail)
  all_goals go_wp2
  all_goals go_ret
  all_goals refine⟨ret_s (by unfold itoaB;rw[E.out];apply ba_ext;simp),?_⟩
  ·exact(Below.trans (apC _ w).drew hb1).alloc (by exact hb1.size) _
  all_goals exact(((apC _ w).alloc (aly _) _).drew).trans (hb1.mono (by simp))
theorem a1M(n:Int)(w:World)(h0: -1000000000<=n)(h1:n<=1000000000):
  Calls Tryz.prog 50 #[.int .i64 n] w fun e w'=>e= .returned (.string (itoaB n))/\Below w.heap.size w w':=by
 by_cases h:n<0
 ·have E:=hid (ahg h);have D:=hid (fun W=>a6K (-n).toNat (-n) W (by omega) (aly _) (by omega));have z2:=a26 (n:= -n) (by omega) (by omega);have z3:(ByteArray.mk #[45]).size+(itoaB (-n)).size<=9223372036854775807:=by have:(ByteArray.mk #[45]).size=1:=rfl;omega
  have z4:1+(itoaB (-n)).size<=9223372036854775807:=by omega
  clear z2;go_enter Tryz.func50,Tryz.ntmps50;go_wp2_with fail
  refine(D.out _).mono ?_
  rintro e w1 ⟨rfl,hb1⟩;go_wp2;go_ret;exact⟨ret_s (by unfold itoaB;rw[E.out];apply ba_ext;simp),hb1⟩
 exact a6K n.toNat n w (by omega) (aly _) h1
theorem a9Y:∀(l:List UInt8),(32:UInt8)∉l->anq l=(l,[],false)
 |[],_=>rfl
 |b::r,h=>by
  have hb:(b==32)=false:=by rw[beq_eq_false_iff_ne];rintro rfl;simp at h
  simp[anq,hb,a9Y r (fun hm=>h (by simp[hm]))]
theorem a3i{s:ByteArray}{k:Nat}(h:k<s.size):s.data.toList.take (k+1)=s.data.toList.take k++[s[k]]:=by
 have h2:k<s.data.toList.length:=by rw[an0];exact h
 rw[alC h2];rfl
theorem drop_byte{s:ByteArray}{k:Nat}(h:k<s.size):s.data.toList.drop k=s[k]::s.data.toList.drop (k+1):=by
 have h2:k<s.data.toList.length:=by rw[an0];exact h
 rw[am3 h2];rfl
theorem u8_eq{b:UInt8}{n:Nat}(hn:n<256):b=UInt8.ofNat n↔b.toNat=n:=by
 constructor
 ·rintro rfl;rw[UInt8.toNat_ofNat'];omega
 intro h;apply UInt8.toNat_inj.1;rw[h,UInt8.toNat_ofNat'];omega
def a9Z(l:List UInt8)(w:World)(e:Ending)(w':World):Prop:=e= .returned (.tuple #[.string (bsB (anq l).1),.string (bsB (anq l).2.1),.bool (anq l).2.2])/\Below w.heap.size w w'
theorem ac3(s:ByteArray)(w:World)(hs:s.size<=4000000000):Calls Tryz.prog 67 #[.string s] w (a9Z s.data.toList w):=by
 have HT0:Hid ((32:UInt8)∉s.data.toList.take 0):=hid (by simp);go_enter Tryz.func67,Tryz.ntmps67;go_wp2;go_loopw [5] (fun i wr=>∃k:Nat,k<=s.size/\i= .int .i64 k/\Hid ((32:UInt8)∉s.data.toList.take k)/\wr=w) (fun i _=>s.size-(intOf i).toNat)
 case atStart=>exact⟨0,by omega,rfl,HT0,rfl⟩
 case round=>
  obtain⟨k,hk,rfl,HT,rfl⟩:=hrel;by_cases hlt:k<s.size
  ·have hlt2:(k:Int)<(s.size:Int):=by omega
   by_cases h32:s[k].toNat=32
   ·have hb32:((s[k].toNat:Int)==32)=true:=by rw[beq_iff_eq];omega
    have HC:Hid (anq s.data.toList=(s.data.toList.take k,s.data.toList.drop (k+1),true)):=hid (by
     have hb:s[k]=32:=(u8_eq (n:=32) (by decide)).2 h32
     conv=>lhs;rw[<-amt k s.data.toList,drop_byte hlt,hb]
     exact aaw _ _ HT.out)
    have HE:=hid (ba_take s k);have HF:=hid (ba_drop s (k+1));clear h32;go_wp2;go_quiet (fail)
    go_wp2;go_ret3
    refine⟨?_,?_⟩
    ·show Ending.returned (Value.tuple #[.string (s.extract 0 k),.string (s.extract (k+1) s.size),.bool true])=_;rw[HE.out,HF.out,HC.out]
    first|exact a3N (apC _ _) _|exact apC _ _
   have hb32:((s[k].toNat:Int)==32)=false:=by rw[beq_eq_false_iff_ne];omega
   have HT2:Hid ((32:UInt8)∉s.data.toList.take (k+1)):=hid (by
    rw[a3i hlt];intro hm;rcases alU.1 hm with h|h
    ·exact HT.out h
    simp only[an8]at h;exact h32 (by rw[<-h];rfl))
   clear h32;go_wp2;go_roundw
   case rel=>exact⟨k+1,by omega,by go_num,HT2,trivial⟩
   case measure=>simp[intOf];omega
  obtain rfl:k=s.size:=by omega
  have HC:Hid (anq s.data.toList=(s.data.toList,[],false)):=hid (a9Y _ (by
   have:=HT.out;rwa[alG (by rw[<-a03];omega)]at this))
  go_wp2;go_ret3
  refine⟨?_,apC _ _⟩;show Ending.returned (Value.tuple #[.string s,.string ⟨#[]⟩,.bool false])=_;rw[HC.out,a3W];rfl
theorem ahi{s:ByteArray}{k:Nat}(h:k<s.size):anQ (s.data.toList.take (k+1))=anQ (s.data.toList.take k) * 10+(s[k].toNat-48):=by
 rw[a3i h,aaj]
theorem aeU{l:List UInt8}(h:l.all a1V=true)(hl:l.length<=9):anQ l<1000000000:=by
 have h1:=adU h;have h2:10^l.length<=10^9:=Nat.pow_le_pow_right (by omega) hl;have h3:(10:Nat)^9=1000000000:=by decide
 omega
def natV(o:Option Nat):Value:=match o with
 |some n=>.tuple #[.int .i64 n,.bool true]
 |none=>.tuple #[.int .i64 0,.bool false]
theorem a6L(s:ByteArray)(d:Nat)(w:World)(hd:d<=9)(hs:s.size<=4000000000):
  Calls Tryz.prog 68 #[.string s,.int .i64 d] w fun e w'=>e= .returned (natV (anI s.data.toList d))/\w=w':=by
 have hsz:s.data.toList.length=s.size:=(a03 s).symm
 by_cases h1:s.size<1
 ·have h1i:(s.size:Int)<1:=by omega
  have HR:Hid (anI s.data.toList d=none):=hid (by unfold anI;rw[if_pos (.inl (by omega))]);clear hsz;go_enter Tryz.func68,Tryz.ntmps68;go_wp2;go_ret2;exact⟨by rw[HR.out];rfl,rfl⟩
 have h1i:¬(s.size:Int)<1:=by omega
 by_cases h2:d<s.size
 ·have h2i:(d:Int)<(s.size:Int):=by omega
  have HR:Hid (anI s.data.toList d=none):=hid (by unfold anI;rw[if_pos (.inr (.inl (by omega)))]);clear hsz;go_enter Tryz.func68,Tryz.ntmps68;go_wp2;go_ret2;exact⟨by rw[HR.out];rfl,rfl⟩
 have h2i:¬(d:Int)<(s.size:Int):=by omega
 have h0:0<s.size:=by omega
 have h0i:(0:Int)<(s.size:Int):=by omega
 have hhead:s.data.toList.headD 0=s[0]:=by
  have:=drop_byte (s:=s) (k:=0) h0;rw[List.drop_zero]at this;rw[this];rfl
 by_cases h3:1<s.size/\s[0].toNat=48
 ·obtain⟨h3a,h3b⟩:=h3;have h3i:(1:Int)<(s.size:Int):=by omega
  have hb:((s[0].toNat:Int)==48)=true:=by rw[beq_iff_eq];omega
  have HR:Hid (anI s.data.toList d=none):=hid (by
   unfold anI;rw[if_pos (.inr (.inr ⟨by omega,by rw[hhead];exact(u8_eq (n:=48) (by decide)).2 h3b⟩))])
  clear hsz hhead h3b;go_enter Tryz.func68,Tryz.ntmps68;go_wp2;go_ret2;exact⟨by rw[HR.out];rfl,rfl⟩
 have HR:Hid (anI s.data.toList d=if s.data.toList.all a1V then some (anQ s.data.toList)else none):=hid (by
  unfold anI;rw[if_neg];rintro(h|h|⟨ha,hb⟩)
  ·omega
  ·omega
  rw[hhead]at hb;exact h3 ⟨by omega,(u8_eq (n:=48) (by decide)).1 hb⟩)
 have hguard:((1:Int)<(s.size:Int)/\((s[0].toNat:Int)==48)=false)\/¬(1:Int)<(s.size:Int):=by
  by_cases h4:1<s.size
  ·exact .inl ⟨by omega,by rw[beq_eq_false_iff_ne];intro e;exact h3 ⟨h4,by omega⟩⟩
  exact .inr (by omega)
 have HD0:Hid ((s.data.toList.take 0).all a1V=true):=hid (by simp);clear hsz hhead h3;rcases hguard with⟨h4,h5⟩|h4
 all_goals
  go_enter Tryz.func68,Tryz.ntmps68;go_wp2;go_loopw [6,7] (fun n i wr=>∃k:Nat,k<=s.size/\i= .int .i64 k/\n= .int .i64 (anQ (s.data.toList.take k):Nat)/\Hid ((s.data.toList.take k).all a1V=true)/\wr=w) (fun _ i _=>s.size-(intOf i).toNat)
  case atStart=>exact⟨0,by omega,rfl,rfl,HD0,rfl⟩
  case round=>
   obtain⟨k,hk,rfl,rfl,HD,rfl⟩:=hrel;have hv:=aeU HD.out (by rw[alL];omega);by_cases hlt:k<s.size
   ·have hlt2:(k:Int)<(s.size:Int):=by omega
    have HNX:=hid (ahi hlt);by_cases h48:48<=s[k].toNat
    ·have h48i:¬(s[k].toNat:Int)<48:=by omega
     have h48j:(48:Int)<=(s[k].toNat:Int):=by omega
     by_cases h57:s[k].toNat<=57
     ·have h57i:¬(57:Int)<(s[k].toNat:Int):=by omega
      have h57j:(s[k].toNat:Int)<=57:=by omega
      have HD2:Hid ((s.data.toList.take (k+1)).all a1V=true):=hid (by
       rw[a3i hlt,List.all_append,HD.out];simp[a1V,h48,h57])
      have HM:Hid (10 * ((anQ (s.data.toList.take k):Nat):Int)+((s[k].toNat:Int)-48)=((anQ (s.data.toList.take (k+1)):Nat):Int)):=hid (by
       rw[HNX.out];omega)
      generalize anQ (s.data.toList.take k)=q at *;go_wp2;go_roundw
      case rel=>exact⟨k+1,by omega,by go_num,by rw[<-HM.out],HD2,trivial⟩
      case measure=>simp[intOf];omega
     have h57i:(57:Int)<(s[k].toNat:Int):=by omega
     have HR2:Hid (anI s.data.toList d=none):=hid (by
      rw[HR.out,if_neg];rw[<-amt k s.data.toList,drop_byte hlt];simp[a1V,h57])
     clear HNX;go_wp2;go_ret2;exact⟨by rw[HR2.out];rfl,rfl⟩
    have h48i:(s[k].toNat:Int)<48:=by omega
    have HR2:Hid (anI s.data.toList d=none):=hid (by
     rw[HR.out,if_neg];rw[<-amt k s.data.toList,drop_byte hlt];simp[a1V,h48])
    clear HNX;go_wp2;go_ret2;exact⟨by rw[HR2.out];rfl,rfl⟩
   obtain rfl:k=s.size:=by omega
   have HR2:Hid (anI s.data.toList d=some (anQ (s.data.toList.take s.size))):=hid (by
    have h9:s.data.toList.take s.size=s.data.toList:=alG (by rw[<-a03];omega);have h8:=HD.out;rw[h9]at h8⊢;rw[HR.out,if_pos h8])
   go_wp2;go_ret2;exact⟨by rw[HR2.out];rfl,rfl⟩
theorem a8V(s:ByteArray)(k:Nat)(h:(s.data.toList.take k).any (fun c=>a17 c.toNat)=false)(hk:k=s.size\/60<s.size):a0j s=decide (s.size<=60):=by
 unfold a0j;rcases hk with rfl|hk
 ·rw[alG (by rw[<-a03];omega)]at h;rw[h];simp
 have:decide (s.size<=60)=false:=by rw[decide_eq_false];omega
 rw[this];rfl
theorem a7F(s:ByteArray){k:Nat}(hlt:k<s.size)(h:a17 s[k].toNat=true):a0j s=false:=by
 unfold a0j
 have:(s.data.toList.any fun c=>a17 c.toNat)=true:=by
  rw[<-amt k s.data.toList,drop_byte hlt];simp[h]
 rw[this];simp
theorem a1F(s:ByteArray)(w:World)(hs:s.size<=4000000000):
  Calls Tryz.prog 69 #[.string s] w fun e w'=>e= .returned (.bool (a0j s))/\w=w':=by
 have HT0:Hid ((s.data.toList.take 0).any (fun c=>a17 c.toNat)=false):=hid (by simp);go_enter Tryz.func69,Tryz.ntmps69;go_wp2;go_loopw [3] (fun i wr=>∃k:Nat,k<=s.size/\k<=61/\i= .int .i64 k/\Hid ((s.data.toList.take k).any (fun c=>a17 c.toNat)=false)/\wr=w) (fun i _=>s.size-(intOf i).toNat)
 case atStart=>exact⟨0,by omega,by omega,rfl,HT0,rfl⟩
 case round=>
  obtain⟨k,hk,hk61,rfl,HT,rfl⟩:=hrel;by_cases hlt:k<s.size
  ·have hlt2:(k:Int)<(s.size:Int):=by omega
   by_cases hk60:k<=60
   ·have hk60i:(k:Int)<=60:=by omega
    by_cases h32:s[k].toNat<32
    ·have h32i:(s[k].toNat:Int)<32:=by omega
     have HB:=hid (a7F s hlt (by unfold a17;rw[decide_eq_true h32i];rfl));clear h32;go_wp2;go_ret;exact⟨by rw[HB.out];rfl,rfl⟩
    have h32i:¬(s[k].toNat:Int)<32:=by omega
    by_cases h126:126<s[k].toNat
    ·have h126i:(126:Int)<(s[k].toNat:Int):=by omega
     have HB:=hid (a7F s hlt (by unfold a17;rw[decide_eq_true h126i];simp));clear h32 h126;go_wp2;go_ret;exact⟨by rw[HB.out];rfl,rfl⟩
    have h126i:¬(126:Int)<(s[k].toNat:Int):=by omega
    have HT2:Hid ((s.data.toList.take (k+1)).any (fun c=>a17 c.toNat)=false):=hid (by
     rw[a3i hlt,List.any_append,HT.out];simp[a17];omega)
    clear h32 h126;go_wp2;go_roundw
    case rel=>exact⟨k+1,by omega,by omega,by go_num,HT2,trivial⟩
    case measure=>simp[intOf];omega
   have hk60i:¬(k:Int)<=60:=by omega
   have HE:=hid (a8V s k HT.out (.inr (by omega)));have h60:¬(s.size:Int)<=60:=by omega
   have HD:Hid (decide (s.size<=60)=false):=hid (by rw[decide_eq_false];omega);go_wp2;go_ret;exact⟨by rw[HE.out,HD.out];rfl,rfl⟩
  obtain rfl:k=s.size:=by omega
  have HE:=hid (a8V s s.size HT.out (.inl rfl));by_cases h60:s.size<=60
  ·have h60i:(s.size:Int)<=60:=by omega
   have HD:Hid (decide (s.size<=60)=true):=hid (decide_eq_true h60);go_wp2;go_ret;exact⟨by rw[HE.out,HD.out];rfl,rfl⟩
  have h60i:¬(s.size:Int)<=60:=by omega
  have HD:Hid (decide (s.size<=60)=false):=hid (decide_eq_false h60);go_wp2;go_ret;exact⟨by rw[HE.out,HD.out];rfl,rfl⟩
def RfAt(w:World)(P:Nat)(n:Int)(vs:Nat->Value)(b:anl):Prop:=
 w.heap[P]? =some (.cells #[.int .i64 n,vs 0,vs 1,vs 2,vs 3] 54 (0,0))/\∀i,i<4->EntsAt w (vs i) (b i)
theorem RfAt.lt{w:World}{P:Nat}{n:Int}{vs:Nat->Value}{b:anl}(h:RfAt w P n vs b):P<w.heap.size:=(alx.1 h.1).1
theorem RfAt.below{w w':World}{P:Nat}{n:Int}{vs:Nat->Value}{b:anl}(h:RfAt w P n vs b)(hb:Below w.heap.size w w'):RfAt w' P n vs b:=
 ⟨(hb.block _ h.lt).trans h.1,fun i hi=>(h.2 i hi).below hb⟩
theorem RfAt.cell{w:World}{P:Nat}{n:Int}{vs:Nat->Value}{b:anl}(h:RfAt w P n vs b){i:Nat}(hi:i<4):w.cell? ⟨P,1+i,none⟩=some (vs i):=by
 rcases (show i=0\/i=1\/i=2\/i=3 by omega)with rfl|rfl|rfl|rfl<;>exact heap_cell h.1 rfl
theorem EntsAt.shape{w:World}{v:Value}{l:List Ent}(h:EntsAt w v l):∃a cap,v= .slice a l.length cap:=by
 obtain⟨a,cap,rfl,_⟩:=h;exact⟨a,cap,rfl⟩
theorem EntsAt.entry{w:World}{v:Value}{l:List Ent}(h:EntsAt w v l){k:Nat}(hk:k<l.length):∃g off cap,v= .slice (some ⟨g,off,none⟩) l.length cap/\
  w.cell? ⟨g,off+k * 4,none⟩=some (.int .i64 (a04 (l.getD k noE)))/\w.cell? ⟨g,off+k * 4+1,none⟩=some (.int .i64 (anv (l.getD k noE)))/\
  w.cell? ⟨g,off+k * 4+2,none⟩=some (.int .i64 (ano (l.getD k noE)))/\w.cell? ⟨g,off+k * 4+3,none⟩=some (.string (a06 (l.getD k noE))):=by
 obtain⟨a,cap,rfl,_,h⟩:=h;obtain⟨g,off,rfl,hc⟩:=h (by omega);have hg:l.getD k noE=l[k]:=by rw[abs,alz hk];rfl
 refine⟨g,off,cap,rfl,?_,?_,?_,?_⟩
 ·exact hc k 0 _ (by omega) (by rw[a2o l k 0 hk (by omega),hg];rfl)
 ·exact hc k 1 _ (by omega) (by rw[a2o l k 1 hk (by omega),hg];rfl)
 ·exact hc k 2 _ (by omega) (by rw[a2o l k 2 hk (by omega),hg];rfl)
 exact hc k 3 _ (by omega) (by rw[a2o l k 3 hk (by omega),hg];rfl)
def nxC(b:anl)(nx:Nat->Nat)(i:Nat):Int:=ano ((b i).getD (nx i) noE)
def LeastP(b:anl)(nx:Nat->Nat)(k:Nat)(l:Value):Prop:=
 (l= .int .i64 (-1)/\∀j,j<k->(b j).length<=nx j)\/
 ∃m:Nat,m<k/\l= .int .i64 m/\nx m<(b m).length/\∀j,j<k->j≠m->nx j<(b j).length->nxC b nx m<nxC b nx j\/(nxC b nx m=nxC b nx j/\m<j)
structure BkI(w:World)(nx:Nat->Nat)(out:List Ent)(o:Value)(wr:World):Prop where
 row:wr.ownsRow (w.heap.size+1) 43 4 o out.length (anu out)
 nxt:wr.heap[w.heap.size]? =some (.cells #[.int .i64 (nx 0:Nat),.int .i64 (nx 1:Nat),.int .i64 (nx 2:Nat),.int .i64 (nx 3:Nat)] 34 (0,0))
 below:Below w.heap.size w wr
theorem BkI.cell{w wr:World}{nx:Nat->Nat}{out:List Ent}{o:Value}(h:BkI w nx out o wr){i:Nat}(hi:i<4):wr.cell? ⟨w.heap.size,i,none⟩=some (.int .i64 (nx i:Nat)):=by
 rcases (show i=0\/i=1\/i=2\/i=3 by omega)with rfl|rfl|rfl|rfl<;>exact heap_cell h.nxt rfl
theorem BkI.lt{w wr:World}{nx:Nat->Nat}{out:List Ent}{o:Value}(h:BkI w nx out o wr):w.heap.size<wr.heap.size:=(alx.1 h.nxt).1
theorem BkI.drewN{w wr:World}{nx:Nat->Nat}{out:List Ent}{o:Value}(h:BkI w nx out o wr)(q:Nat):BkI w nx out o (wr.drewN q):=
 ⟨own_below h.row (a0e (apC wr.heap.size wr) q),h.nxt,a0e h.below q⟩
theorem akF{X:World}{base b j:Nat}{e:TypeId}{sz:Nat}{v u:Value}{n:Nat}{xs:List Value}(h:X.ownsRow base e sz v n xs)(hb:b<base):(X.setCell ⟨b,j,none⟩ u).ownsRow base e sz v n xs:=by
 refine⟨h.1,?_⟩;rcases h.2 with hn|⟨g,cap,cur,hv,hbg,hg,hrest⟩
 ·exact .inl hn
 exact .inr ⟨g,cap,cur,hv,hbg,(apE _ _ _ _ (by show g≠b;omega)).trans hg,hrest⟩
theorem BkI.next{w W7:World}{nx:Nat->Nat}{out:List Ent}{v':Value}{m:Nat}(hm:m<4)(hrow:W7.ownsRow (w.heap.size+1) 43 4 v' out.length (anu out))
  (hnxt:W7.heap[w.heap.size]? =some (.cells #[.int .i64 (nx 0:Nat),.int .i64 (nx 1:Nat),.int .i64 (nx 2:Nat),.int .i64 (nx 3:Nat)] 34 (0,0)))(hb:Below w.heap.size w W7):
  BkI w (a4T nx m (nx m+1)) out v' (W7.setCell ⟨w.heap.size,m,none⟩ (.int .i64 ((nx m:Nat)+1:Int))):=by
 refine⟨akF hrow (by omega),?_,hb.setCell (p:=⟨w.heap.size,m,none⟩) (aly _) _⟩;rw[a1q hnxt];rcases (show m=0\/m=1\/m=2\/m=3 by omega)with rfl|rfl|rfl|rfl<;>rfl
def aps:Value->Nat
 | .slice _ n _=>n
 |_=>0
theorem LeastP.skip{b:anl}{nx:Nat->Nat}{k:Nat}{l:Value}(h:LeastP b nx k l)(hk:¬nx k<(b k).length):LeastP b nx (k+1) l:=by
 rcases h with⟨rfl,hall⟩|⟨m,hm,rfl,hml,hmin⟩
 ·refine .inl ⟨rfl,fun j hj=>?_⟩
  by_cases e:j=k
  ·subst e;omega
  exact hall j (by omega)
 refine .inr ⟨m,by omega,rfl,hml,fun j hj hne hl=>?_⟩
 by_cases e:j=k
 ·subst e;exact absurd hl hk
 exact hmin j (by omega) hne hl
theorem LeastP.turn{b:anl}{nx:Nat->Nat}{k m:Nat}(hmin:∀j,j<k->j≠m->nx j<(b j).length->nxC b nx m<nxC b nx j\/(nxC b nx m=nxC b nx j/\m<j))(hk:nx k<(b k).length)(hlt:nxC b nx k<nxC b nx m):LeastP b nx (k+1) (.int .i64 k):=by
 refine .inr ⟨k,by omega,rfl,hk,fun j hj hne hl=>.inl ?_⟩
 by_cases e:j=m
 ·subst e;exact hlt
 rcases hmin j (by omega) e hl with h|h<;>omega
theorem LeastP.stay{b:anl}{nx:Nat->Nat}{k m:Nat}(hm:m<k)(hml:nx m<(b m).length)(hmin:∀j,j<k->j≠m->nx j<(b j).length->nxC b nx m<nxC b nx j\/(nxC b nx m=nxC b nx j/\m<j))(hge:¬nxC b nx k<nxC b nx m):LeastP b nx (k+1) (.int .i64 m):=by
 refine .inr ⟨m,by omega,rfl,hml,fun j hj hne hl=>?_⟩
 by_cases e:j=k
 ·subst e;by_cases e2:nxC b nx m=nxC b nx j
  ·exact .inr ⟨e2,hm⟩
  exact .inl (by omega)
 exact hmin j (by omega) hne hl
theorem a6M(P:Nat)(n:Int)(vs:Nat->Value)(b:anl)(w:World)(h:RfAt w P n vs b)(hok:a02 b):
  Calls Tryz.prog 42 #[.pointer (some ⟨P,0,none⟩)] w (a2D (ann b) w):=by
 have HRF:=hid h;have HOK:=hid hok;obtain⟨w2,hw2⟩:∃w2,w2=w.alloc (.cells #[.int .i64 0,.int .i64 0,.int .i64 0,.int .i64 0] 34):=⟨_,rfl⟩
 have HI0:Hid (BkI w (fun _=>0) [] (.slice none 0 0) w2):=hid (by
  rw[hw2];exact⟨World.ownsRow_nil _ _ _ _,World.alloc_heap_new w _,(apC _ w).alloc (aly _) _⟩)
 have HM0:=hid (Mg.start b);have HW2:=hid hw2;clear h hok hw2;go_enter Tryz.func42,Tryz.ntmps42;go_wp2_with fail
 rw[<-HW2.out];go_loopw [3] (fun o wr=>∃nx out,Hid (Mg b nx out)/\Hid (BkI w nx out o wr)) (fun o _=>241-aps o)
 case atStart=>exact⟨_,_,HM0,HI0⟩
 case round=>
  obtain⟨nx,out,HM,HI⟩:=hrel;have HRW:=hid (HRF.out.below HI.out.below);obtain⟨wo,hwo⟩:∃wo,wo=wr:=⟨_,rfl⟩
  subst hwo;go_wp2_with fail
  go_loopw [5,6] (fun l i wr=>∃k:Nat,k<=4/\i= .int .i64 k/\LeastP b nx k l/\Hid (BkI w nx out u3 wr)) (fun _ i _=>4-(intOf i).toNat)
  case atStart=>exact⟨0,by omega,rfl,.inl ⟨rfl,fun j hj=>by omega⟩,HI⟩
  case round=>
   obtain⟨k,hk,rfl,hls,HI⟩:=hrel;have HLS:=hid hls;by_cases hlt:k<4
   ·have hlt2:(k:Int)<4:=by omega
    have HRI:=hid (HRF.out.below HI.out.below);have c1:=HI.out.cell hlt;have c2:=HRI.out.cell hlt;by_cases hless:nx k<(b k).length
    ·obtain⟨g,off,cap,hv,_,_,c3,_⟩:=(HRI.out.2 k hlt).entry hless
     rw[hv]at c2;obtain⟨x,hx⟩:∃x,x=nxC b nx k:=⟨_,rfl⟩
     rw[show ano ((b k).getD (nx k) noE)=x from hx.symm]at c3;obtain⟨len,hlen⟩:∃len,len=(b k).length:=⟨_,rfl⟩
     rw[<-hlen]at c2 hless;obtain⟨p,hp⟩:∃p,p=nx k:=⟨_,rfl⟩
     rw[<-hp]at c1 c3 hless;have hl2:(p:Int)<(len:Int):=by omega
     have HX:=hid hx;have HLN:=hid hlen;have HP:=hid hp;rcases hls with⟨rfl,hall⟩|⟨m,hm,rfl,hml,hmin⟩
     ·have HNX:Hid (LeastP b nx (k+1) (.int .i64 k)):=hid (.inr ⟨k,by omega,rfl,by rw[<-hp,<-hlen];exact hless,fun j hj hne hl=>by
       have:=hall j (by omega);omega⟩)
      clear hall hx hlen hp hless hv HLS;go_wp2;go_quiet (fail)
      have HI2:=hid (HI.out.drewN nq);go_wp2;go_roundw
      case rel=>exact⟨k+1,by omega,by go_num,HNX.out,HI2⟩
      case measure=>simp[intOf];omega
     obtain⟨g2,off2,cap2,hv2,_,_,d3,_⟩:=(HRI.out.2 m (by omega)).entry hml
     have d1:=HI.out.cell (i:=m) (by omega);have d2:=HRI.out.cell (i:=m) (by omega);rw[hv2]at d2;obtain⟨y,hy⟩:∃y,y=nxC b nx m:=⟨_,rfl⟩
     rw[show ano ((b m).getD (nx m) noE)=y from hy.symm]at d3;obtain⟨len2,hlen2⟩:∃len,len=(b m).length:=⟨_,rfl⟩
     obtain⟨p2,hp2⟩:∃p,p=nx m:=⟨_,rfl⟩
     have hml2:(p2:Int)<(len2:Int):=by rw[hp2,hlen2];omega
     rw[<-hlen2]at d2;rw[<-hp2]at d1 d3;have hm4:(m:Int)<4:=by omega
     have hm0:¬(m:Int)<0:=by omega
     by_cases hxy:x<y
     ·have HNX:Hid (LeastP b nx (k+1) (.int .i64 k)):=hid (LeastP.turn hmin (by rw[<-hp,<-hlen];exact hless) (by rw[<-hx,<-hy];exact hxy));clear hmin hx hlen hp hless hv HLS hv2 hy hlen2 hp2 hml;go_wp2;go_quiet (fail)
      have HI2:=hid (HI.out.drewN nq);go_wp2;go_roundw
      case rel=>exact⟨k+1,by omega,by go_num,HNX.out,HI2⟩
      case measure=>simp[intOf];omega
     have HNX:Hid (LeastP b nx (k+1) (.int .i64 m)):=hid (LeastP.stay hm hml hmin (by rw[<-hx,<-hy];exact hxy));clear hmin hx hlen hp hless hv HLS hv2 hy hlen2 hp2 hml;go_wp2;go_quiet (fail)
     have HI2:=hid (HI.out.drewN nq);go_wp2;go_roundw
     case rel=>exact⟨k+1,by omega,by go_num,HNX.out,HI2⟩
     case measure=>simp[intOf];omega
    obtain⟨a,cap,hv⟩:=(HRI.out.2 k hlt).shape
    rw[hv]at c2;have HNX:=hid (LeastP.skip hls hless);obtain⟨len,hlen⟩:∃len,len=(b k).length:=⟨_,rfl⟩
    obtain⟨p,hp⟩:∃p,p=nx k:=⟨_,rfl⟩
    have hl2:¬(p:Int)<(len:Int):=by rw[hp,hlen];omega
    have hl3:decide ((p:Int)<(len:Int))=false:=decide_eq_false hl2;have hl4:decide (p<len)=false:=by rw[decide_eq_false];omega
    have hl5:len<=p:=by omega
    rw[<-hlen]at c2;rw[<-hp]at c1;clear hls HLS hv hlen hp hless;go_wp2;go_quiet (fail)
    have HI2:=hid (HI.out.drewN nq);go_wp2;go_roundw
    case rel=>exact⟨k+1,by omega,by go_num,HNX.out,HI2⟩
    case measure=>simp[intOf];omega
   obtain rfl:k=4:=by omega
   clear HLS;rcases hls with⟨rfl,hall⟩|⟨m,hm,rfl,hml,hmin⟩
   ·have HE:Hid (out=ann b):=hid (HM.out.done hall);clear hall;go_wp2;go_ret;refine⟨_,rfl,?_,fun j hj=>?_,HI.out.below⟩
    ·rw[<-HE.out];exact a1L HI.out.row (alE _)
    have:=(HI.out.row.lt j hj).1;omega
   have HMI:=hid hmin;clear hmin;have HRI:=hid (HRF.out.below HI.out.below);obtain⟨g2,off2,cap2,hv2,d4,d5,d3,d6⟩:=(HRI.out.2 m hm).entry hml
   have d1:=HI.out.cell hm;have d2:=HRI.out.cell hm;rw[hv2]at d2;obtain⟨e0,he0⟩:∃e0:Ent,e0=(b m).getD (nx m) noE:=⟨_,rfl⟩
   rw[<-he0]at d4 d5 d3 d6;have HE0:Hid (e0=(b m)[nx m]):=hid (by rw[he0,abs,alz hml];rfl)
   have HMS:Hid (Mg b (a4T nx m (nx m+1)) (out++[e0])):=hid (by
    rw[HE0.out];refine HM.out.step HOK.out hm hml fun j hj hne hl=>?_;have:=HMI.out j hj hne hl;unfold nxC at this;rw[abs,alz hml,abs,alz hl]at this;exact this)
   have HLO:Hid (out.length<240):=hid (by
    have h1:=HMS.out.len;have h2:=HMS.out.le;simp only[alA,alB,alH]at h1;have a0:=h2 0 (by omega);have a1:=h2 1 (by omega);have a2:=h2 2 (by omega);have a3:=h2 3 (by omega);have b0:=(HOK.out 0 (by omega)).len;have b1:=(HOK.out 1 (by omega)).len;have b2:=(HOK.out 2 (by omega)).len;have b3:=(HOK.out 3 (by omega)).len
    omega)
   obtain⟨oa,oc,rfl⟩:=a4g HI.out.row;obtain⟨ol,hol⟩:∃ol,ol=out.length:=⟨_,rfl⟩
   obtain⟨len2,hlen2⟩:∃len,len=(b m).length:=⟨_,rfl⟩
   obtain⟨p2,hp2⟩:∃p,p=nx m:=⟨_,rfl⟩
   have hml2:(p2:Int)<(len2:Int):=by rw[hp2,hlen2];omega
   rw[<-hlen2]at d2;rw[<-hp2]at d1 d3 d4 d5 d6;have hm4:(m:Int)<4:=by omega
   have hm0:¬(m:Int)<0:=by omega
   have hp240:p2<60:=by have:=(HOK.out m hm).len;omega
   have HOL:=hid hol;have HP2:=hid hp2;rw[<-hol];clear HE0 hv2 he0 hlen2 hp2 hml hol;obtain⟨W6,hW6⟩:∃W6,W6=(wr.alloc (.cells #[.int .i64 (a04 e0),.int .i64 (anv e0),.int .i64 (ano e0),.string (a06 e0)] 43)).drew:=⟨_,rfl⟩
   have HX6:Hid (Below wr.heap.size wr W6):=hid (by rw[hW6];exact((apC _ _).alloc (aly _) _).drew);have HNW:Hid (W6.heap[wr.heap.size]? =some (.cells #[.int .i64 (a04 e0),.int .i64 (anv e0),.int .i64 (ano e0),.string (a06 e0)] 43 (0,0))):=hid (by rw[hW6];exact World.alloc_heap_new wr _);have HRO:Hid (wr.ownsRow (w.heap.size+1) 43 4 (.slice oa ol oc) ol (anu out)):=hid (by have h9:=HI.out.row;rw[<-HOL.out]at h9;exact h9);have HR6:=hid (own_below HRO.out HX6.out);obtain⟨i0,hi0,hz0,hz1,hz2⟩:=info_parts Tryz.infoEnt;have hone:=a2C [e0];have hnl:(anu [e0]).length=1 * 4:=by rw[a0T];rfl
   have HAP:Hid (∀ty,∃v' W',(Builtin.append_ #[40,40] ty #[.slice oa ol oc,.slice (some ⟨wr.heap.size,0,none⟩) 1 1]).run Tryz.prog W6= .ok v' W'/\(W'.ownsRow (w.heap.size+1) 43 4 v' (ol+1) (anu out++anu [e0])/\W6.grownBy W' (Value.slice oa ol oc).ownBlock)):=hid (fun ty=>by
    have h1:=HLO.out;have h2:=HX6.out.size;have h3:=HI.out.lt;obtain⟨v',W',hrun,hown,hgr,_⟩:=run_append_own (P:=Tryz.prog) (w:=W6) (w.heap.size+1) 40 ty 43 i0 _ 4 40 Tryz.underlying40 hi0 hz0 hz1 hz2 rfl (by decide) _ _ _ HR6.out ⟨wr.heap.size,0,none⟩ 1 1 (anu [e0]) hnl (a4O HNW.out rfl) hone (by rw[HOL.out];unfold maxLen;omega) (by rw[HOL.out];omega) (by omega);exact⟨v',W',hrun,hown,hgr⟩)
   have HW6:=hid hW6;have HLT:=hid (fun g hg=>HRO.out.lt g hg);clear hW6 hone hnl hi0 hz0 hz1 hz2;go_wp2
   go_region_law (first
    |((rw[<-HW6.out];refine a0B (by rfl) _ _ _ (by rfl) (.slice oa ol oc) (.slice (some ⟨wr.heap.size,0,none⟩) 1 1) (by rfl) (by rfl) (fun v' W'=>W'.ownsRow (w.heap.size+1) 43 4 v' (ol+1) (anu out++anu [e0])/\W6.grownBy W' (Value.slice oa ol oc).ownBlock) (HAP.out _) ?_;intro v' W7 hR;have HR:=hid hR;clear hR))
    |fail)
   all_goals
    obtain⟨hrow7,hgr7⟩:=HR.out;have hn7:=(hgr7.block w.heap.size (alJ HI.out.lt HX6.out.size) (fun e=>by have:=(HLT.out _ e.symm).1;omega)).trans ((HX6.out.block w.heap.size HI.out.lt).trans HI.out.nxt)
    have hb7:Below w.heap.size w W7:=(HI.out.below.trans (HX6.out.mono HI.out.below.size)).grown hgr7 (by have:=HI.out.below.size;have:=HX6.out.size;omega) (fun k e=>by have:=(HLT.out k e).1;omega)
    have HI7:Hid (BkI w (a4T nx m (nx m+1)) (out++[e0]) v' (W7.setCell ⟨w.heap.size,m,none⟩ (.int .i64 ((p2:Nat)+1:Int)))):=hid (by
     have h9:=BkI.next hm (out:=out++[e0]) (by rw[alA,a1C,amF,<-HOL.out];exact hrow7) hn7 hb7;rw[<-HP2.out]at h9⊢;exact h9)
    have c7:W7.cell? ⟨w.heap.size,m,none⟩=some (.int .i64 (p2:Nat)):=by
     rw[HP2.out];rcases (show m=0\/m=1\/m=2\/m=3 by omega)with rfl|rfl|rfl|rfl<;>exact heap_cell hn7 rfl
    have f7:W7.frozen? ⟨w.heap.size,m,none⟩=false:=by simp[World.frozen?,hn7]
    obtain⟨va,vc,rfl⟩:=a4g hrow7;clear hrow7 hgr7 hn7 hb7 d1 d2 d3 d4 d5 d6;go_wp2;go_roundw
    case rel=>exact⟨_,_,HMS,HI7⟩
    case measure=>show 241-(ol+1)<241-out.length;have:=HLO.out;have:=HOL.out;omega
theorem ae1(x y:Ent)(W:World):(binOp .neq 43 (.agg #[.int .i64 (a04 x),.int .i64 (anv x),.int .i64 (ano x),.string (a06 x)]) (.agg #[.int .i64 (a04 y),.int .i64 (anv y),.int .i64 (ano y),.string (a06 y)])).run Tryz.prog W= .ok (.bool (!eqE x y)) W:=neqE.1 x y W
theorem a8W{l m:List Ent}{k:Nat}(hl:k<l.length)(hm:k<m.length)(h:l.take k=m.take k)(he:l.getD k noE=m.getD k noE):l.take (k+1)=m.take (k+1):=by
 rw[abs,alz hl,abs,alz hm]at he;rw[alC hl,alC hm,h];exact congrArg (fun z=>m.take k++[z]) he
theorem ahj(v v2:Value)(l m:List Ent)(w:World)(h1:EntsAt w v l)(h2:EntsAt w v2 m)(hl:l.length<=1000):
  Calls Tryz.prog 31 #[v,v2] w fun e w'=>e= .returned (.bool (decide (l=m)))/\Below w.heap.size w w':=by
 have H1:=hid h1;have H2:=hid h2;obtain⟨a1,c1,rfl⟩:=h1.shape;obtain⟨a2,c2,rfl⟩:=h2.shape;obtain⟨n,hn⟩:∃n,n=l.length:=⟨_,rfl⟩
 obtain⟨n2,hn2⟩:∃n,n=m.length:=⟨_,rfl⟩
 have HN:=hid hn;have HN2:=hid hn2;rw[<-hn,<-hn2];rw[<-hn]at hl;clear h1 h2 hn hn2;by_cases he:n=n2
 ·subst he;go_enter Tryz.func31,Tryz.ntmps31;go_wp2;go_loopw [5] (fun i wr=>∃k:Nat,k<=n/\i= .int .i64 k/\Hid (l.take k=m.take k)/\Hid (Below w.heap.size w wr)) (fun i _=>n-(intOf i).toNat)
  case atStart=>exact⟨0,by omega,rfl,hid (by simp),hid (apC _ _)⟩
  case round=>
   obtain⟨k,hk,rfl,HT,HB⟩:=hrel;by_cases hlt:k<n
   ·have hlt2:(k:Int)<(n:Int):=by omega
    have hkl:k<l.length:=by rw[<-HN.out];exact hlt
    have hkm:k<m.length:=by rw[<-HN2.out];exact hlt
    obtain⟨g,o,cc,hv,p1,p2,p3,p4⟩:=(H1.out.below HB.out).entry hkl
    obtain⟨g',o',cc',hv',q1,q2,q3,q4⟩:=(H2.out.below HB.out).entry hkm
    simp only[Value.slice.injEq]at hv hv';obtain⟨rfl,_,rfl⟩:=hv;obtain⟨rfl,_,rfl⟩:=hv';have HTN:=hid (a8W hkl hkm HT.out);obtain⟨x,hx⟩:∃x:Ent,x=l.getD k noE:=⟨_,rfl⟩
    obtain⟨y,hy⟩:∃y:Ent,y=m.getD k noE:=⟨_,rfl⟩
    rw[<-hx]at p1 p2 p3 p4;rw[<-hy]at q1 q2 q3 q4;rw[<-hx,<-hy]at HTN;have HX:=hid hx;have HY:=hid hy;have hne:=ae1 x y;clear hx hy;by_cases hxy:x=y
    ·have HT2:=hid (HTN.out hxy);have hb:eqE x y=true:=(a5k x y).2 hxy
     rw[hb]at hne;clear hxy hb HTN;go_wp2;go_quiet (fail)
     have HB2:=hid (a0e HB.out nq);go_wp2;go_roundw
     case rel=>exact⟨k+1,by omega,by go_num,HT2,HB2⟩
     case measure=>simp[intOf];omega
    have hb:eqE x y=false:=by rw[Bool.eq_false_iff];exact fun h=>hxy ((a5k x y).1 h)
    have HD:Hid (decide (l=m)=false):=hid (by
     rw[decide_eq_false];intro e;apply hxy;rw[HX.out,HY.out,e])
    rw[hb]at hne;clear hxy hb HTN;go_wp2;go_quiet (fail)
    have HB2:=hid (a0e HB.out nq);go_wp2;go_ret;exact⟨by rw[HD.out];rfl,HB2.out⟩
   obtain rfl:k=n:=by omega
   have HD:Hid (decide (l=m)=true):=hid (by
    rw[decide_eq_true_iff];have h9:=HT.out;rw[alG (by rw[<-HN.out];exact aly _),alG (by rw[<-HN2.out];exact aly _)]at h9;exact h9)
   go_wp2;go_ret;exact⟨by rw[HD.out];rfl,HB.out⟩
 have hb:((n:Int)==(n2:Int))=false:=by rw[beq_eq_false_iff_ne];omega
 have HD:Hid (decide (l=m)=false):=hid (by
  rw[decide_eq_false];intro e;apply he;rw[HN.out,HN2.out,e])
 go_enter Tryz.func31,Tryz.ntmps31;go_wp2;go_ret;exact⟨by rw[HD.out];rfl,apC _ _⟩
theorem aj9(n:Int)(w:World):Calls Tryz.prog 46 #[.int .i64 n] w fun e w'=>e= .returned (.pointer (some ⟨w.heap.size,0,none⟩))/\
  w'=w.alloc (.cells #[.int .i64 n,.slice none 0 0,.slice none 0 0,.slice none 0 0,.slice none 0 0] 54):=by
 go_enter Tryz.func46,Tryz.ntmps46;go_wp2;go_ret;exact⟨rfl,rfl⟩
theorem aeV{i:Nat}{l:List Ent}(h:ListOk i l){k:Nat}(hk:k<l.length):a0m (l.take (k+1))=ano (l.getD k noE)/\(a0m (l.take k)<ano (l.getD k noE)):=by
 have e:l.take (k+1)=l.take k++[l[k]]:=alC hk;have eg:l.getD k noE=l[k]:=by rw[abs,alz hk];rfl
 rw[eg];refine⟨by rw[e,a6p],?_⟩;cases k with
 |zero=>
  have:=(h.own 0 hk).2.2.1
  show (0:Int)<_;omega
 |succ j=>
  have e2:l.take (j+1)=l.take j++[l[j]]:=alC (by omega);rw[e2,a6p];exact amz.1 h.asc j (j+1) (by omega) hk (by omega)
theorem a8X(P:Nat)(n:Int)(vs:Nat->Value)(b:anl)(w:World)(h:RfAt w P n vs b)(hok:a02 b):
  Calls Tryz.prog 61 #[.pointer (some ⟨P,0,none⟩)] w fun e w'=>e= .returned (.int .i64 (anF b))/\w=w':=by
 have H:=hid h;have HOK:=hid hok;clear h hok;go_enter Tryz.func61,Tryz.ntmps61;go_wp2;go_loopw [3,4] (fun n i wr=>∃k:Nat,k<=4/\i= .int .i64 k/\n= .int .i64 (a1T b k)/\wr=w) (fun _ i _=>4-(intOf i).toNat)
 case atStart=>exact⟨0,by omega,rfl,rfl,rfl⟩
 case round=>
  obtain⟨i,hi,rfl,rfl,rfl⟩:=hrel;by_cases hlt:i<4
  ·have hlt2:(i:Int)<4:=by omega
   have c1:=H.out.cell hlt;have HLO:=hid (HOK.out i hlt);obtain⟨a,cap,hv⟩:=(H.out.2 i hlt).shape
   have HEN:=hid (H.out.2 i hlt);rw[hv]at c1 HEN;have HS:=hid (show a1T b (i+1)=max (a1T b i) (a0m (b i))from rfl);have HPOS:=hid (a6r b i);generalize b i=l at *;generalize a1T b i=m at *;obtain⟨len,hlen⟩:∃len,len=l.length:=⟨_,rfl⟩
   have HLEN:=hid hlen;rw[<-hlen]at c1;have hl60:len<=60:=by rw[hlen];exact HLO.out.len
   clear hlen hv;obtain⟨wo,hwo⟩:∃wo,wo=wr:=⟨_,rfl⟩
   subst hwo;go_wp2;go_loopw [3,5] (fun n j wr=>∃k:Nat,k<=len/\j= .int .i64 k/\n= .int .i64 (max m (a0m (l.take k)))/\wr=wo) (fun _ j _=>len-(intOf j).toNat)
   case atStart=>exact⟨0,by omega,rfl,by rw[List.take_zero,aaf];have:=HPOS.out;congr 1;omega,rfl⟩
   case round=>
    obtain⟨k,hk,rfl,rfl,rfl⟩:=hrel;by_cases hlk:k<len
    ·have hlk2:(k:Int)<(len:Int):=by omega
     obtain⟨g,off,cap2,hv2,_,_,d3,_⟩:=HEN.out.entry (k:=k) (by rw[<-HLEN.out];exact hlk);simp only[Value.slice.injEq]at hv2;obtain⟨rfl,_,rfl⟩:=hv2;have HT:=hid (aeV HLO.out (k:=k) (by rw[<-HLEN.out];exact hlk));generalize l.getD k noE=ex at *
     have HM:Hid (max (max m (a0m (l.take k))) (ano ex)=max m (a0m (l.take (k+1)))):=hid (by
      have h1:=HT.out.1;have h2:=HT.out.2;rw[h1];omega)
     generalize max m (a0m (l.take k))=mm at *;go_wp2;go_roundw
     case rel=>exact⟨k+1,by omega,by go_num,by rw[HM.out],trivial⟩
     case measure=>simp[intOf];omega
    obtain rfl:k=len:=by omega
    have HTA:Hid (l.take k=l):=hid (alG (by rw[<-HLEN.out];exact aly _));have HM:Hid (max m (a0m (l.take k))=a1T b (i+1)):=hid (by rw[HTA.out,HS.out]);generalize max m (a0m (l.take k))=mm at *;go_wp2;go_roundw
    case rel=>exact⟨i+1,by omega,by go_num,by rw[HM.out],trivial⟩
    case measure=>simp[intOf];omega
  have e:i=4:=by omega
  subst e;go_wp2;go_ret;exact⟨by rw[adR];rfl,rfl⟩
theorem aeW{l m:List Ent}:l<+:m↔l.length<=m.length/\l=m.take l.length:=by
 constructor
 ·intro h;exact⟨h.length_le,by rw[<-amx];exact h⟩
 rintro⟨_,h⟩;rw[amx];exact h
theorem a7G(v v2:Value)(l m:List Ent)(w:World)(h1:EntsAt w v l)(h2:EntsAt w v2 m)(hl:l.length<=1000):
  Calls Tryz.prog 58 #[v,v2] w fun e w'=>e= .returned (.bool (decide (l<+:m)))/\Below w.heap.size w w':=by
 have H1:=hid h1;have H2:=hid h2;obtain⟨a1,c1,rfl⟩:=h1.shape;obtain⟨a2,c2,rfl⟩:=h2.shape;obtain⟨n,hn⟩:∃n,n=l.length:=⟨_,rfl⟩
 obtain⟨n2,hn2⟩:∃n,n=m.length:=⟨_,rfl⟩
 have HN:=hid hn;have HN2:=hid hn2;rw[<-hn,<-hn2];rw[<-hn]at hl;clear h1 h2 hn hn2;go_enter Tryz.func58,Tryz.ntmps58;go_wp2;go_loopw [5] (fun i wr=>∃k:Nat,k<=n/\k<=n2/\i= .int .i64 k/\Hid (l.take k=m.take k)/\Hid (Below w.heap.size w wr)) (fun i _=>n-(intOf i).toNat)
 case atStart=>exact⟨0,by omega,by omega,rfl,hid (by simp),hid (apC _ _)⟩
 case round=>
  obtain⟨k,hk,hk2,rfl,HT,HB⟩:=hrel;by_cases hlt:k<n
  ·have hlt2:(k:Int)<(n:Int):=by omega
   by_cases hlm:k<n2
   ·have hlm2:(k:Int)<(n2:Int):=by omega
    have hkl:k<l.length:=by rw[<-HN.out];exact hlt
    have hkm:k<m.length:=by rw[<-HN2.out];exact hlm
    obtain⟨g,o,cc,hv,p1,p2,p3,p4⟩:=(H1.out.below HB.out).entry hkl
    obtain⟨g',o',cc',hv',q1,q2,q3,q4⟩:=(H2.out.below HB.out).entry hkm
    simp only[Value.slice.injEq]at hv hv';obtain⟨rfl,_,rfl⟩:=hv;obtain⟨rfl,_,rfl⟩:=hv';have HTN:=hid (a8W hkl hkm HT.out);obtain⟨x,hx⟩:∃x:Ent,x=l.getD k noE:=⟨_,rfl⟩
    obtain⟨y,hy⟩:∃y:Ent,y=m.getD k noE:=⟨_,rfl⟩
    rw[<-hx]at p1 p2 p3 p4;rw[<-hy]at q1 q2 q3 q4;rw[<-hx,<-hy]at HTN;have HX:=hid hx;have HY:=hid hy;have hne:=ae1 x y;clear hx hy;by_cases hxy:x=y
    ·have HT2:=hid (HTN.out hxy);have hb:eqE x y=true:=(a5k x y).2 hxy
     rw[hb]at hne;clear hxy hb HTN;go_wp2;go_quiet (fail)
     have HB2:=hid (a0e HB.out nq);go_wp2;go_roundw
     case rel=>exact⟨k+1,by omega,by omega,by go_num,HT2,HB2⟩
     case measure=>simp[intOf];omega
    have hb:eqE x y=false:=by rw[Bool.eq_false_iff];exact fun h=>hxy ((a5k x y).1 h)
    have HD:Hid (decide (l<+:m)=false):=hid (by
     rw[decide_eq_false];intro e;apply hxy;obtain⟨r,rfl⟩:=e;rw[HX.out,HY.out,abs,abs,amE hkl])
    rw[hb]at hne;clear hxy hb HTN;go_wp2;go_quiet (fail)
    have HB2:=hid (a0e HB.out nq);go_wp2;go_ret;exact⟨by rw[HD.out];rfl,HB2.out⟩
   obtain rfl:k=n2:=by omega
   have hlm2:¬(k:Int)<(k:Int):=by omega
   have hle:¬(n:Int)<=(k:Int):=by omega
   have HD:Hid (decide (l<+:m)=false):=hid (by
    rw[decide_eq_false];intro e;have:=e.length_le;rw[<-HN.out,<-HN2.out]at this;omega)
   go_wp2;go_ret;exact⟨by rw[HD.out];rfl,HB.out⟩
  obtain rfl:k=n:=by omega
  have hlt2:¬(k:Int)<(k:Int):=by omega
  have hle:(k:Int)<=(n2:Int):=by omega
  have HD:Hid (decide (l<+:m)=true):=hid (by
   rw[decide_eq_true_iff,aeW];refine⟨by rw[<-HN.out,<-HN2.out];exact hk2,?_⟩;have h9:=HT.out;rw[alG (by rw[<-HN.out];exact aly _)]at h9;rw[<-HN.out];exact h9)
  go_wp2;go_ret;exact⟨by rw[HD.out];rfl,HB.out⟩
open Go
abbrev Rw:=ByteArray×ByteArray×Int
def anr(n:ByteArray):List Rw->Nat
 |[]=>0
 |x::r=>if x.1=n then 0 else anr n r+1
theorem a5n(n:ByteArray):∀l,anr n l<=l.length
 |[]=>aly _
 |x::r=>by
  have:=a5n n r;unfold anr;split<;>simp only[alB]<;>omega
theorem a40(n:ByteArray):∀(l:List Rw) (h:anr n l<l.length),(l[anr n l]).1=n
 |[],h=>by simp at h
 | x::r,h=>by
  by_cases hx:x.1=n
  ·have e:anr n (x::r)=0:=by simp[anr,hx]
   simp only[e,am1];exact hx
  have e:anr n (x::r)=anr n r+1:=by simp[anr,hx]
  simp only[e,amn];exact a40 n r (by rw[e]at h;simpa using h)
theorem a2r(n:ByteArray):∀(l:List Rw) (j:Nat) (h:j<l.length),j<anr n l->(l[j]).1≠n
 |[],j,h,_=>by simp at h
 |x::r,0,h,hj=>by
  simp only[am1];intro hx;simp[anr,hx]at hj
 |x::r,j+1,h,hj=>by
  simp only[amn];by_cases hx:x.1=n
  ·simp[anr,hx]at hj
  exact a2r n r j (by simpa using h) (by simp[anr,hx]at hj;omega)
theorem a3j(n:ByteArray):∀(l:List Rw) (i:Nat),(∀j (h:j<l.length),j<i->(l[j]).1≠n)->(∀h:i<l.length,(l[i]).1=n)->i<=l.length->anr n l=i
 |[],i,_,_,h3=>by simp at h3;subst h3;rfl
 |x::r,0,_,h2,_=>by
  have:=h2 (by simp);simp only[am1]at this;simp[anr,this]
 | x::r,i+1,h1,h2,h3=>by
  have h0:=h1 0 (by simp) (by omega);simp only[am1]at h0
  have:=a3j n r i (fun j h hj=>by
   have h9:=h1 (j+1) (by simpa using h) (by omega);rw[amn]at h9;exact h9) (fun h=>by
   have h9:=h2 (by simpa using h);rw[amn]at h9;exact h9) (by simpa using h3)
  simp[anr,h0,this]
def anz(l:List Rw)(n:ByteArray):List Rw:=if anr n l<l.length then l else l++[(n,emp,0)]
def a1j(l:List Rw)(n:ByteArray):Rw:=l.getD (anr n l) (n,emp,0)
def a0a(l:List Rw)(n:ByteArray):ByteArray:=(a1j l n).2.1
def a0H(l:List Rw)(n:ByteArray):Int:=(a1j l n).2.2
def a2n(l:List Rw)(i:Nat)(t:ByteArray):List Rw:=l.modify i fun x=>(x.1,t,x.2.2)
def a4x(l:List Rw)(i:Nat)(m:Int):List Rw:=l.modify i fun x=>(x.1,x.2.1,m)
theorem a7s(l:List Rw)(n:ByteArray):anr n (anz l n)=anr n l/\anr n l<(anz l n).length:=by
 unfold anz;by_cases h:anr n l<l.length
 ·rw[if_pos h];exact⟨rfl,h⟩
 rw[if_neg h];have e:anr n l=l.length:=by have:=a5n n l;omega
 refine⟨?_,by rw[e];simp⟩;rw[e];refine a3j n _ _ (fun j hj hlt=>?_) (fun hj=>?_) (by simp)
 ·rw[amJ hlt];exact a2r n l j hlt (by omega)
 simp
theorem a3B(l:List Rw)(n:ByteArray):(anz l n).length<=l.length+1:=by
 unfold anz;split<;>simp
theorem a2E(l:List Rw)(n m:ByteArray):a1j (anz l n) m=a1j l m:=by
 unfold anz;by_cases h:anr n l<l.length
 ·rw[if_pos h]
 rw[if_neg h];have e:anr n l=l.length:=by have:=a5n n l;omega
 unfold a1j;by_cases hm:anr m l<l.length
 ·have e2:anr m (l++[(n,emp,0)])=anr m l:=a3j m _ _ (fun j hj hlt=>by
   rw[amJ (by omega)];exact a2r m l j (by omega) hlt) (fun hj=>by
   rw[amJ hm];exact a40 m l hm) (by simp;omega)
  rw[e2,abs,abs,amE hm]
 have e3:anr m l=l.length:=by have:=a5n m l;omega
 have hr:l.getD (anr m l) (m,emp,0)=(m,emp,0):=by rw[e3,abs,aml (aly _)];rfl
 rw[hr];by_cases hmn:m=n
 ·subst hmn
  have e2:anr m (l++[(m,emp,0)])=l.length:=a3j m _ _ (fun j hj hlt=>by
   rw[amJ hlt];exact a2r m l j hlt (by omega)) (fun hj=>by simp) (by simp)
  rw[e2,abs,am9 (aly _)];simp
 have e2:anr m (l++[(n,emp,0)])=l.length+1:=a3j m _ _ (fun j hj hlt=>by
  by_cases hjl:j<l.length
  ·rw[amJ hjl];exact a2r m l j hjl (by omega)
  have:j=l.length:=by omega
  subst this;simp only[List.getElem_append_right (aly _),ani,am1];exact fun h=>hmn h.symm) (fun hj=>by simp at hj) (by simp)
 rw[e2,abs,aml (by simp)];rfl
theorem ac4(l:List Rw)(i:Nat)(f:Rw->Rw)(hf:∀x,(f x).1=x.1)(m:ByteArray):anr m (l.modify i f)=anr m l:=by
 have hlen:(l.modify i f).length=l.length:=amV ..
 refine a3j m _ _ (fun j hj hlt=>?_) (fun hj=>?_) (by rw[hlen];exact a5n m l)
 ·rw[an1];have:=a2r m l j (by rw[hlen]at hj;exact hj) hlt;split
  ·rw[hf];exact this
  exact this
 rw[an1];have:=a40 m l (by rw[hlen]at hj;exact hj);split
 ·rw[hf];exact this
 exact this
theorem a8Y(l:List Rw)(n m:ByteArray)(f:Rw->Rw)(hf:∀x,(f x).1=x.1)(h:anr n l<l.length):a1j (l.modify (anr n l) f) m=if m=n then f (a1j l n)else a1j l m:=by
 unfold a1j;rw[ac4 l _ f hf];by_cases hm:m=n
 ·subst hm;rw[if_pos rfl,abs,abs,alz (by rw[amV];exact h),alz h,an1];simp
 rw[if_neg hm];by_cases hl:anr m l<l.length
 ·rw[abs,abs,alz (by rw[amV];exact hl),alz hl,an1];rw[if_neg];intro e;have h1:=a40 n l h;have h2:=a40 m l hl;simp only[e]at h1;exact hm (h2.symm.trans h1)
 rw[abs,abs,aml (by rw[amV];omega),aml (by omega)]
def aoK(t:ByteArray):Option ByteArray:=if t=emp then none else some t
theorem a3C:aoK emp=none:=if_pos rfl
theorem a2F{t:ByteArray}(h:t≠emp):aoK t=some t:=if_neg h
def knR(l:List Rw):Kn:=⟨fun n=>aoK (a0a l n),fun n=>a0H l n⟩
theorem a6N{a b:Kn}(h1:∀n,a.txt n=b.txt n)(h2:∀n,a.stk n=b.stk n):a=b:=by
 cases a;cases b
 simp only[Kn.mk.injEq];exact⟨funext h1,funext h2⟩
theorem ae2(l:List Rw)(n:ByteArray):knR (anz l n)=knR l:=by
 refine a6N (fun m=>?_) (fun m=>?_)
 ·simp only[knR,a0a,a2E]
 simp only[knR,a0H,a2E]
theorem a4j(l:List Rw)(n m t:ByteArray):a1j (a2n (anz l n) (anr n l) t) m=if m=n then ((a1j l n).1,t,(a1j l n).2.2)else a1j l m:=by
 obtain⟨h1,h2⟩:=a7s l n;have:=a8Y (anz l n) n m (fun x=>(x.1,t,x.2.2)) (fun _=>rfl) (by rw[h1];exact h2);rw[h1,a2E,a2E]at this;exact this
theorem a8Z(l:List Rw)(n m:ByteArray)(k:Int):a1j (a4x (anz l n) (anr n l) k) m=if m=n then ((a1j l n).1,(a1j l n).2.1,k)else a1j l m:=by
 obtain⟨h1,h2⟩:=a7s l n;have:=a8Y (anz l n) n m (fun x=>(x.1,x.2.1,k)) (fun _=>rfl) (by rw[h1];exact h2);rw[h1,a2E,a2E]at this;exact this
def a1k(l:List Rw)(line:ByteArray):(ByteArray×Int)×List Rw:=match a29 line with
 |some (.put n t)=>((t,0),a2n (anz l n) (anr n l) t)
 |some (.drop n)=>if a0a l n=emp then ((emp,5),anz l n)else ((a0a l n,0),a2n (anz l n) (anr n l) emp)
 |some (.add n m)=>((itoaB (a0H l n+m),0),a4x (anz l n) (anr n l) (a0H l n+m))
 |_=>((emp,100),l)
theorem ahk{line n t:ByteArray}(h:a29 line=some (.put n t)):t≠emp:=by
 unfold a29 at h;simp only at h;split at h
 ·cases h
 split at h
 ·split at h
  ·cases h
  rename_i hne
  simp only[Option.some.injEq,Cmd.put.injEq]at h;intro e;rw[<-h.2]at e;exact hne (adN (m:=[]) e)
 split at h
 ·split at h<;>cases h
 split at h
 ·split at h<;>cases h
 cases h
theorem a90(l:List Rw)(line:ByteArray):match a5H line with
  |none=>a1k l line=((emp,100),l)
  |some c=>(a1k l line).1=(anC c (knR l)).1/\knR (a1k l line).2=(anC c (knR l)).2:=by
 have hs:=agw line;rw[<-hs];unfold a1k;cases hd:a29 line with
 |none=>rfl
 | some c=>
  have hdd:c.deed=true:=by
   rw[hd]at hs;unfold a5H at hs;split at hs
   ·split at hs
    ·cases hs;assumption
    cases hs
   cases hs
  cases c with
  | put n t=>
   refine⟨rfl,?_⟩;simp only[anC];have ht:=ahk hd;refine a6N (fun m=>?_) (fun m=>?_)
   ·simp only[knR,a0a,a4j,upd];by_cases e:m=n
    ·simp[e,a2F ht]
    simp[e]
   simp only[knR,a0H,a4j];by_cases e:m=n
   ·simp[e]
   simp[e]
  | drop n=>
   by_cases he:a0a l n=emp
   ·have hk:(knR l).txt n=none:=by simp[knR,he,a3C]
    simp only[anC,hk,if_pos he];exact⟨trivial,ae2 l n⟩
   have hk:(knR l).txt n=some (a0a l n):=a2F he
   simp only[anC,hk,if_neg he];refine⟨trivial,a6N (fun m=>?_) (fun m=>?_)⟩
   ·simp only[knR,a0a,a4j,upd];by_cases e:m=n
    ·simp[e,a3C]
    simp[e]
   simp only[knR,a0H,a4j];by_cases e:m=n
   ·simp[e]
   simp[e]
  | add n k=>
   refine⟨rfl,?_⟩;simp only[anC];refine a6N (fun m=>?_) (fun m=>?_)
   ·simp only[knR,a0a,a8Z];by_cases e:m=n
    ·simp[e]
    simp[e]
   simp only[knR,a0H,a8Z,upd];by_cases e:m=n
   ·simp[e]
   simp[e]
  |stock n=>cases hdd
  |share n ns=>cases hdd
  |asked k ns n=>cases hdd
def a0t:List Ent->List Rw->List Rw
 |[],l=>l
 |e::r,l=>a0t r (a1k l (a06 e)).2
theorem a91:∀(es:List Ent) (e:Ent) (l:List Rw),a0t (es++[e]) l=(a1k (a0t es l) (a06 e)).2
 |[],_,_=>rfl
 |x::es,e,l=>a91 es e _
theorem aeX(l:List Rw)(line:ByteArray):knR (a1k l line).2=a0L (knR l) line:=by
 have h:=a90 l line;unfold a5H at h;unfold a0L;cases hp:a05 line with
 |none=>rw[hp]at h;simp only at h⊢;rw[h]
 |some c=>
  rw[hp]at h;cases hd:c.deed with
  |false=>simp only[hd]at h⊢;simp only[Bool.false_eq_true,if_false]at h⊢;rw[h]
  |true=>simp only[hd,if_true]at h⊢;exact h.2
theorem a92:∀(es:List Ent) (l:List Rw),knR (a0t es l)=a1w (knR l) es
 |[],_=>rfl
 |e::es,l=>by
  rw[a0t,a92 es,aeX];rfl
theorem akG:knR []=kn0:=by
 refine a6N (fun m=>?_) (fun m=>?_)
 ·simp[knR,a0a,a1j,kn0,a3C]
 simp[knR,a0H,a1j,kn0]
theorem a5O(es:List Ent):knR (a0t es [])=a07 es:=by rw[a92,akG];rfl
theorem ahl(l:List Rw)(line:ByteArray):(a1k l line).2.length<=l.length+1:=by
 unfold a1k;split
 ·rw[a2n,amV];exact a3B _ _
 ·split
  ·exact a3B _ _
  rw[a2n,amV];exact a3B _ _
 ·rw[a4x,amV];exact a3B _ _
 simp
theorem a2d:∀(es:List Ent) (l:List Rw),(a0t es l).length<=l.length+es.length
 |[],_=>aly _
 |e::es,l=>by
  have h1:=a2d es (a1k l (a06 e)).2
  have h2:=ahl l (a06 e);rw[a0t,alB];omega
theorem aax{l m:List Ent}(h:anx l m=true):a0N l m=if l.length<m.length then m else l:=by
 unfold a0N;by_cases h1:m.length<l.length
 ·rw[if_pos h1,if_neg (by omega)]
 rw[if_neg h1];by_cases h2:l.length<m.length
 ·rw[if_pos h2]
 rw[if_neg h2];unfold anx at h;simp only[Bool.or_eq_true,decide_eq_true_eq]at h;rcases h with h|h
 ·exact(h.eq_of_length (by omega)).symm
 exact h.eq_of_length (by omega)
end Go.Proofs.YtdfkaijeppdhaaaGreatDoor
