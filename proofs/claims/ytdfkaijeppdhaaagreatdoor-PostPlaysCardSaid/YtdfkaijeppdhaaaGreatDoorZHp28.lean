/- Texts of this claim, laid together: Ra. -/
import Derived.Test.YtdfkaijeppdhaaaGreatDoorZHp27
import Derived.Lib.ItoaNum
import Derived.Laws.IdiomStrings
import Derived.Deep.RegionHeld3
import Derived.KernelRfl
import Derived.OwnWalk
import Derived.Lib.Hide

set_option maxRecDepth 100000
set_option maxHeartbeats 8000000
set_option linter.unusedSimpArgs false
set_option linter.unusedVariables false

namespace Go.Proofs.YtdfkaijeppdhaaaGreatDoor
open Go.RowKit Go.Shelf
open Lib (hid)
theorem a4M:∀(k u:Nat),u<10^(k+1)->Lib.nDigits u<=k+1
 |0,u,h=>by rw[Lib.nDigits_small (by simpa using h)];exact Nat.le_refl _
 |k+1,u,h=>by
  by_cases h1:u<10
  ·rw[Lib.nDigits_small h1];omega
  rw[Lib.nDigits_big h1];have:=a4M k (u / 10) (by rw[Nat.pow_succ]at h;omega);omega
theorem agw{n:Int}(h0: -1000000000<=n)(h1:n<=1000000000):(Lib.itoa n).length<=11:=by
 have hp:(10:Nat)^10=10000000000:=by decide
 unfold Lib.itoa;split
 ·rw[List.length_cons,Lib.decDigits_length];have:=a4M 9 n.natAbs (by omega);omega
 rw[Lib.decDigits_length];have:=a4M 9 n.toNat (by omega);omega
theorem a2G{n:Int}(h0: -1000000000<=n)(h1:n<=1000000000):(itoaB n).size<=11:=by
 have:=agw h0 h1;simpa [itoaB,ByteArray.size]using this
theorem agx{n:Int}(h:n<0):Lib.itoa n=45::Lib.itoa (-n):=by
 unfold Lib.itoa;rw[if_pos h,if_neg (by omega)];congr 2;omega
theorem acu{n:Int}(h:0<=n)(h2:n<10):Lib.itoa n=[UInt8.ofNat (48+n.toNat)]:=by
 unfold Lib.itoa;rw[if_neg (by omega),Lib.decDigits_one (by omega)]
theorem agy{n:Int}(h:10<=n):Lib.itoa n=Lib.itoa (n / 10)++[UInt8.ofNat (48+(n % 10).toNat)]:=by
 have h1:¬n.toNat<10:=by omega
 have h2:(n / 10).toNat=n.toNat / 10:=by omega
 have h3:(n % 10).toNat=n.toNat % 10:=by omega
 unfold Lib.itoa;rw[if_neg (by omega),if_neg (by omega),h2,h3];conv=>lhs;rw[Lib.decDigits,dif_neg h1]
theorem abz{n:Int}(h0:0<=n)(h1:n<10)(W:World)(b:Nat)(hc:W.cell? ⟨b,0,none⟩=some (.int .u8 (48+n))):
  (convert 65 9 (.slice (some ⟨b,0,none⟩) 1 1)).run Tryz.prog W= .ok (.string ⟨#[UInt8.ofNat (48+n.toNat)]⟩) W:=by
 have hb8:(UInt8.ofNat (48+n.toNat)).toNat=48+n.toNat:=by rw[UInt8.toNat_ofNat'];omega
 have h:=run_convert_bytes_back (P:=Tryz.prog) W 65 9 5 ⟨b,0,none⟩ 1 [UInt8.ofNat (48+n.toNat)] Tryz.underlying65 Tryz.underlying5 Tryz.underlying9 (by
  intro j hj;have:j=0:=by simpa using hj
  subst this;simp only[List.getElem_cons_zero,hb8];have e:(((48+n.toNat:Nat)):Int)=48+n:=by omega
  rw[e];exact hc)
 exact h
theorem a6y(u:Nat):∀(n:Int) (w:World),0<=n->n.toNat<=u->n<=1000000000->
  Calls Tryz.prog 50 #[.int .i64 n] w fun e w'=>e= .returned (.string (itoaB n))/\Below w.heap.size w w':=by
 induction u using Nat.strongRecOn with
 | _ u ih=>
  intro n w h0 hu h1;have h0':¬n<0:=by omega
  by_cases h:n<10
  ·have E:=hid (acu h0 h);have hcv:=abz h0 h (w.alloc (.cells #[.int .u8 (48+n)] 5)) w.heap.size (by simp);generalize UInt8.ofNat (48+n.toNat)=bb at *;go_enter Tryz.func50,Tryz.ntmps50;go_wp2;go_ret;exact⟨ret_s (by unfold itoaB;rw[E.out]),(Below.refl _ _).alloc (Nat.le_refl _) _⟩
  have E:=hid (agy (n:=n) (by omega));have z1:=a2G (n:=n / 10) (by omega) (by omega);have z3:(itoaB (n / 10)).size+1<=9223372036854775807:=by omega
  clear z1;have I1:=hid (fun W=>ih (n / 10).toNat (by omega) (n / 10) W (by omega) (by omega) (by omega));have hm0:0<=n % 10:=by omega
  have hm1:n % 10<10:=by omega
  obtain⟨bb,hbb⟩:∃bb,bb=UInt8.ofNat (48+(n % 10).toNat):=⟨_,rfl⟩
  have hcv:=fun W b=>abz hm0 hm1 W b;rw[<-hbb]at hcv E;clear hbb;clear ih hu;go_enter Tryz.func50,Tryz.ntmps50;have htm:n.tmod 10=n % 10:=Int.tmod_eq_emod_of_nonneg h0;have htd:n.tdiv 10=n / 10:=Int.tdiv_eq_ediv_of_nonneg h0;have hw1:IntKind.i64.wrap (n / 10)=n / 10:=IntWalk.i64_in _ (by omega);have hw2:IntKind.i64.wrap (48+n % 10)=48+n % 10:=IntWalk.i64_in _ (by omega);have hw3:IntKind.u8.wrap (48+n % 10)=48+n % 10:=IntWalk.u8_in _ (by omega);go_wp2_with fail
  go_region_with (first
   |(go_at_call 50;have HC:Calls Tryz.prog 50 #[.int .i64 (n / 10)] w.drew (fun e w'=>e= .returned (.string (itoaB (n / 10)))/\Below w.drew.heap.size w.drew w'):=I1.out _;(with_reducible refine HC.mono ?_);rintro e w1 ⟨rfl,hb1⟩;have hw1:=hb1.size;clear HC)
   |(go_at_call 50;have HC:Calls Tryz.prog 50 #[.int .i64 (n / 10)] ((w.alloc (.cells #[.int .u8 (48+n % 10)] 5)).drew) (fun e w'=>e= .returned (.string (itoaB (n / 10)))/\Below ((w.alloc (.cells #[.int .u8 (48+n % 10)] 5)).drew).heap.size ((w.alloc (.cells #[.int .u8 (48+n % 10)] 5)).drew) w'):=I1.out _;(with_reducible refine HC.mono ?_);rintro e w1 ⟨rfl,hb1⟩;have hc1:w1.cell? ⟨w.heap.size,0,none⟩=some (.int .u8 (48+n % 10)):=keep_cell hb1 (show ((w.alloc (.cells #[.int .u8 (48+n % 10)] 5)).drew).cell? ⟨w.heap.size,0,none⟩=some (.int .u8 (48+n % 10))from heap_cell (World.alloc_heap_new w (.cells #[.int .u8 (48+n % 10)] 5)) rfl);clear HC)
   |fail)
  all_goals go_wp2
  all_goals go_ret
  all_goals refine⟨ret_s (by unfold itoaB;rw[E.out];apply ba_ext;simp),?_⟩
  ·exact(Below.trans (Below.refl _ w).drew hb1).alloc (by exact hb1.size) _
  all_goals exact(((Below.refl _ w).alloc (Nat.le_refl _) _).drew).trans (hb1.mono (by simp))
theorem a1P(n:Int)(w:World)(h0: -1000000000<=n)(h1:n<=1000000000):
  Calls Tryz.prog 50 #[.int .i64 n] w fun e w'=>e= .returned (.string (itoaB n))/\Below w.heap.size w w':=by
 by_cases h:n<0
 ·have E:=hid (agx h);have D:=hid (fun W=>a6y (-n).toNat (-n) W (by omega) (Nat.le_refl _) (by omega));have z2:=a2G (n:= -n) (by omega) (by omega);have z3:(ByteArray.mk #[45]).size+(itoaB (-n)).size<=9223372036854775807:=by have:(ByteArray.mk #[45]).size=1:=rfl;omega
  have z4:1+(itoaB (-n)).size<=9223372036854775807:=by omega
  clear z2;go_enter Tryz.func50,Tryz.ntmps50;go_wp2_with fail
  refine(D.out _).mono ?_
  rintro e w1 ⟨rfl,hb1⟩;go_wp2;go_ret;exact⟨ret_s (by unfold itoaB;rw[E.out];apply ba_ext;simp),hb1⟩
 exact a6y n.toNat n w (by omega) (Nat.le_refl _) h1
theorem a9h:∀(l:List UInt8),(32:UInt8)∉l->cutR l=(l,[],false)
 |[],_=>rfl
 |b::r,h=>by
  have hb:(b==32)=false:=by rw[beq_eq_false_iff_ne];rintro rfl;simp at h
  simp[cutR,hb,a9h r (fun hm=>h (by simp[hm]))]
theorem a2Z{s:ByteArray}{k:Nat}(h:k<s.size):s.data.toList.take (k+1)=s.data.toList.take k++[s[k]]:=by
 have h2:k<s.data.toList.length:=by rw[Array.length_toList];exact h
 rw[List.take_succ_eq_append_getElem h2];rfl
theorem drop_byte{s:ByteArray}{k:Nat}(h:k<s.size):s.data.toList.drop k=s[k]::s.data.toList.drop (k+1):=by
 have h2:k<s.data.toList.length:=by rw[Array.length_toList];exact h
 rw[List.drop_eq_getElem_cons h2];rfl
theorem u8_eq{b:UInt8}{n:Nat}(hn:n<256):b=UInt8.ofNat n↔b.toNat=n:=by
 constructor
 ·rintro rfl;rw[UInt8.toNat_ofNat'];omega
 intro h;apply UInt8.toNat_inj.1;rw[h,UInt8.toNat_ofNat'];omega
def a4Y(l:List UInt8)(w:World)(e:Ending)(w':World):Prop:=e= .returned (.tuple #[.string (bsB (cutR l).1),.string (bsB (cutR l).2.1),.bool (cutR l).2.2])/\Below w.heap.size w w'
theorem abA(s:ByteArray)(w:World)(hs:s.size<=4000000000):Calls Tryz.prog 67 #[.string s] w (a4Y s.data.toList w):=by
 have HT0:Hid ((32:UInt8)∉s.data.toList.take 0):=hid (by simp);go_enter Tryz.func67,Tryz.ntmps67;go_wp2;go_loopw [5] (fun i wr=>∃k:Nat,k<=s.size/\i= .int .i64 k/\Hid ((32:UInt8)∉s.data.toList.take k)/\wr=w) (fun i _=>s.size-(intOf i).toNat)
 case atStart=>exact⟨0,by omega,rfl,HT0,rfl⟩
 case round=>
  obtain⟨k,hk,rfl,HT,rfl⟩:=hrel;by_cases hlt:k<s.size
  ·have hlt2:(k:Int)<(s.size:Int):=by omega
   by_cases h32:s[k].toNat=32
   ·have hb32:((s[k].toNat:Int)==32)=true:=by rw[beq_iff_eq];omega
    have HC:Hid (cutR s.data.toList=(s.data.toList.take k,s.data.toList.drop (k+1),true)):=hid (by
     have hb:s[k]=32:=(u8_eq (n:=32) (by decide)).2 h32
     conv=>lhs;rw[<-List.take_append_drop k s.data.toList,drop_byte hlt,hb]
     exact a6x _ _ HT.out)
    have HE:=hid (ba_take s k);have HF:=hid (ba_drop s (k+1));clear h32;go_wp2;go_quiet (fail)
    go_wp2;go_ret3
    refine⟨?_,?_⟩
    ·show Ending.returned (Value.tuple #[.string (s.extract 0 k),.string (s.extract (k+1) s.size),.bool true])=_;rw[HE.out,HF.out,HC.out]
    first|exact a3v (Below.refl _ _) _|exact Below.refl _ _
   have hb32:((s[k].toNat:Int)==32)=false:=by rw[beq_eq_false_iff_ne];omega
   have HT2:Hid ((32:UInt8)∉s.data.toList.take (k+1)):=hid (by
    rw[a2Z hlt];intro hm;rcases List.mem_append.1 hm with h|h
    ·exact HT.out h
    simp only[List.mem_singleton]at h;exact h32 (by rw[<-h];rfl))
   clear h32;go_wp2;go_roundw
   case rel=>exact⟨k+1,by omega,by go_num,HT2,trivial⟩
   case measure=>simp[intOf];omega
  obtain rfl:k=s.size:=by omega
  have HC:Hid (cutR s.data.toList=(s.data.toList,[],false)):=hid (a9h _ (by
   have:=HT.out;rwa[List.take_of_length_le (by rw[<-a03];omega)]at this))
  go_wp2;go_ret3
  refine⟨?_,Below.refl _ _⟩;show Ending.returned (Value.tuple #[.string s,.string ⟨#[]⟩,.bool false])=_;rw[HC.out,a3C];rfl
theorem agz{s:ByteArray}{k:Nat}(h:k<s.size):valD (s.data.toList.take (k+1))=valD (s.data.toList.take k) * 10+(s[k].toNat-48):=by
 rw[a2Z h,a9u]
theorem aer{l:List UInt8}(h:l.all a1q=true)(hl:l.length<=9):valD l<1000000000:=by
 have h1:=acQ h;have h2:10^l.length<=10^9:=Nat.pow_le_pow_right (by omega) hl;have h3:(10:Nat)^9=1000000000:=by decide
 omega
def natV(o:Option Nat):Value:=match o with
 |some n=>.tuple #[.int .i64 n,.bool true]
 |none=>.tuple #[.int .i64 0,.bool false]
theorem a6z(s:ByteArray)(d:Nat)(w:World)(hd:d<=9)(hs:s.size<=4000000000):
  Calls Tryz.prog 68 #[.string s,.int .i64 d] w fun e w'=>e= .returned (natV (natR s.data.toList d))/\w=w':=by
 have hsz:s.data.toList.length=s.size:=(a03 s).symm
 by_cases h1:s.size<1
 ·have h1i:(s.size:Int)<1:=by omega
  have HR:Hid (natR s.data.toList d=none):=hid (by unfold natR;rw[if_pos (.inl (by omega))]);clear hsz;go_enter Tryz.func68,Tryz.ntmps68;go_wp2;go_ret2;exact⟨by rw[HR.out];rfl,rfl⟩
 have h1i:¬(s.size:Int)<1:=by omega
 by_cases h2:d<s.size
 ·have h2i:(d:Int)<(s.size:Int):=by omega
  have HR:Hid (natR s.data.toList d=none):=hid (by unfold natR;rw[if_pos (.inr (.inl (by omega)))]);clear hsz;go_enter Tryz.func68,Tryz.ntmps68;go_wp2;go_ret2;exact⟨by rw[HR.out];rfl,rfl⟩
 have h2i:¬(d:Int)<(s.size:Int):=by omega
 have h0:0<s.size:=by omega
 have h0i:(0:Int)<(s.size:Int):=by omega
 have hhead:s.data.toList.headD 0=s[0]:=by
  have:=drop_byte (s:=s) (k:=0) h0;rw[List.drop_zero]at this;rw[this];rfl
 by_cases h3:1<s.size/\s[0].toNat=48
 ·obtain⟨h3a,h3b⟩:=h3;have h3i:(1:Int)<(s.size:Int):=by omega
  have hb:((s[0].toNat:Int)==48)=true:=by rw[beq_iff_eq];omega
  have HR:Hid (natR s.data.toList d=none):=hid (by
   unfold natR;rw[if_pos (.inr (.inr ⟨by omega,by rw[hhead];exact(u8_eq (n:=48) (by decide)).2 h3b⟩))])
  clear hsz hhead h3b;go_enter Tryz.func68,Tryz.ntmps68;go_wp2;go_ret2;exact⟨by rw[HR.out];rfl,rfl⟩
 have HR:Hid (natR s.data.toList d=if s.data.toList.all a1q then some (valD s.data.toList)else none):=hid (by
  unfold natR;rw[if_neg];rintro(h|h|⟨ha,hb⟩)
  ·omega
  ·omega
  rw[hhead]at hb;exact h3 ⟨by omega,(u8_eq (n:=48) (by decide)).1 hb⟩)
 have hguard:((1:Int)<(s.size:Int)/\((s[0].toNat:Int)==48)=false)\/¬(1:Int)<(s.size:Int):=by
  by_cases h4:1<s.size
  ·exact .inl ⟨by omega,by rw[beq_eq_false_iff_ne];intro e;exact h3 ⟨h4,by omega⟩⟩
  exact .inr (by omega)
 have HD0:Hid ((s.data.toList.take 0).all a1q=true):=hid (by simp);clear hsz hhead h3;rcases hguard with⟨h4,h5⟩|h4
 all_goals
  go_enter Tryz.func68,Tryz.ntmps68;go_wp2;go_loopw [6,7] (fun n i wr=>∃k:Nat,k<=s.size/\i= .int .i64 k/\n= .int .i64 (valD (s.data.toList.take k):Nat)/\Hid ((s.data.toList.take k).all a1q=true)/\wr=w) (fun _ i _=>s.size-(intOf i).toNat)
  case atStart=>exact⟨0,by omega,rfl,rfl,HD0,rfl⟩
  case round=>
   obtain⟨k,hk,rfl,rfl,HD,rfl⟩:=hrel;have hv:=aer HD.out (by rw[List.length_take];omega);by_cases hlt:k<s.size
   ·have hlt2:(k:Int)<(s.size:Int):=by omega
    have HNX:=hid (agz hlt);by_cases h48:48<=s[k].toNat
    ·have h48i:¬(s[k].toNat:Int)<48:=by omega
     have h48j:(48:Int)<=(s[k].toNat:Int):=by omega
     by_cases h57:s[k].toNat<=57
     ·have h57i:¬(57:Int)<(s[k].toNat:Int):=by omega
      have h57j:(s[k].toNat:Int)<=57:=by omega
      have HD2:Hid ((s.data.toList.take (k+1)).all a1q=true):=hid (by
       rw[a2Z hlt,List.all_append,HD.out];simp[a1q,h48,h57])
      have HM:Hid (10 * ((valD (s.data.toList.take k):Nat):Int)+((s[k].toNat:Int)-48)=((valD (s.data.toList.take (k+1)):Nat):Int)):=hid (by
       rw[HNX.out];omega)
      generalize valD (s.data.toList.take k)=q at *;go_wp2;go_roundw
      case rel=>exact⟨k+1,by omega,by go_num,by rw[<-HM.out],HD2,trivial⟩
      case measure=>simp[intOf];omega
     have h57i:(57:Int)<(s[k].toNat:Int):=by omega
     have HR2:Hid (natR s.data.toList d=none):=hid (by
      rw[HR.out,if_neg];rw[<-List.take_append_drop k s.data.toList,drop_byte hlt];simp[a1q,h57])
     clear HNX;go_wp2;go_ret2;exact⟨by rw[HR2.out];rfl,rfl⟩
    have h48i:(s[k].toNat:Int)<48:=by omega
    have HR2:Hid (natR s.data.toList d=none):=hid (by
     rw[HR.out,if_neg];rw[<-List.take_append_drop k s.data.toList,drop_byte hlt];simp[a1q,h48])
    clear HNX;go_wp2;go_ret2;exact⟨by rw[HR2.out];rfl,rfl⟩
   obtain rfl:k=s.size:=by omega
   have HR2:Hid (natR s.data.toList d=some (valD (s.data.toList.take s.size))):=hid (by
    have h9:s.data.toList.take s.size=s.data.toList:=List.take_of_length_le (by rw[<-a03];omega);have h8:=HD.out;rw[h9]at h8⊢;rw[HR.out,if_pos h8])
   go_wp2;go_ret2;exact⟨by rw[HR2.out];rfl,rfl⟩
theorem a8E(s:ByteArray)(k:Nat)(h:(s.data.toList.take k).any (fun c=>a0W c.toNat)=false)(hk:k=s.size\/60<s.size):a0g s=decide (s.size<=60):=by
 unfold a0g;rcases hk with rfl|hk
 ·rw[List.take_of_length_le (by rw[<-a03];omega)]at h;rw[h];simp
 have:decide (s.size<=60)=false:=by rw[decide_eq_false];omega
 rw[this];rfl
theorem a7d(s:ByteArray){k:Nat}(hlt:k<s.size)(h:a0W s[k].toNat=true):a0g s=false:=by
 unfold a0g
 have:(s.data.toList.any fun c=>a0W c.toNat)=true:=by
  rw[<-List.take_append_drop k s.data.toList,drop_byte hlt];simp[h]
 rw[this];simp
theorem a1u(s:ByteArray)(w:World)(hs:s.size<=4000000000):
  Calls Tryz.prog 69 #[.string s] w fun e w'=>e= .returned (.bool (a0g s))/\w=w':=by
 have HT0:Hid ((s.data.toList.take 0).any (fun c=>a0W c.toNat)=false):=hid (by simp);go_enter Tryz.func69,Tryz.ntmps69;go_wp2;go_loopw [3] (fun i wr=>∃k:Nat,k<=s.size/\k<=61/\i= .int .i64 k/\Hid ((s.data.toList.take k).any (fun c=>a0W c.toNat)=false)/\wr=w) (fun i _=>s.size-(intOf i).toNat)
 case atStart=>exact⟨0,by omega,by omega,rfl,HT0,rfl⟩
 case round=>
  obtain⟨k,hk,hk61,rfl,HT,rfl⟩:=hrel;by_cases hlt:k<s.size
  ·have hlt2:(k:Int)<(s.size:Int):=by omega
   by_cases hk60:k<=60
   ·have hk60i:(k:Int)<=60:=by omega
    by_cases h32:s[k].toNat<32
    ·have h32i:(s[k].toNat:Int)<32:=by omega
     have HB:=hid (a7d s hlt (by unfold a0W;rw[decide_eq_true h32i];rfl));clear h32;go_wp2;go_ret;exact⟨by rw[HB.out];rfl,rfl⟩
    have h32i:¬(s[k].toNat:Int)<32:=by omega
    by_cases h126:126<s[k].toNat
    ·have h126i:(126:Int)<(s[k].toNat:Int):=by omega
     have HB:=hid (a7d s hlt (by unfold a0W;rw[decide_eq_true h126i];simp));clear h32 h126;go_wp2;go_ret;exact⟨by rw[HB.out];rfl,rfl⟩
    have h126i:¬(126:Int)<(s[k].toNat:Int):=by omega
    have HT2:Hid ((s.data.toList.take (k+1)).any (fun c=>a0W c.toNat)=false):=hid (by
     rw[a2Z hlt,List.any_append,HT.out];simp[a0W];omega)
    clear h32 h126;go_wp2;go_roundw
    case rel=>exact⟨k+1,by omega,by omega,by go_num,HT2,trivial⟩
    case measure=>simp[intOf];omega
   have hk60i:¬(k:Int)<=60:=by omega
   have HE:=hid (a8E s k HT.out (.inr (by omega)));have h60:¬(s.size:Int)<=60:=by omega
   have HD:Hid (decide (s.size<=60)=false):=hid (by rw[decide_eq_false];omega);go_wp2;go_ret;exact⟨by rw[HE.out,HD.out];rfl,rfl⟩
  obtain rfl:k=s.size:=by omega
  have HE:=hid (a8E s s.size HT.out (.inl rfl));by_cases h60:s.size<=60
  ·have h60i:(s.size:Int)<=60:=by omega
   have HD:Hid (decide (s.size<=60)=true):=hid (decide_eq_true h60);go_wp2;go_ret;exact⟨by rw[HE.out,HD.out];rfl,rfl⟩
  have h60i:¬(s.size:Int)<=60:=by omega
  have HD:Hid (decide (s.size<=60)=false):=hid (decide_eq_false h60);go_wp2;go_ret;exact⟨by rw[HE.out,HD.out];rfl,rfl⟩
end Go.Proofs.YtdfkaijeppdhaaaGreatDoor
