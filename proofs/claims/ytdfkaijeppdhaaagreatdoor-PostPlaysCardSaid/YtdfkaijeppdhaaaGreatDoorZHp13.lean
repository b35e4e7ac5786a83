/- Texts of this claim, laid together: TdE, TdF, TdG, TdH. -/
import Derived.Test.YtdfkaijeppdhaaaGreatDoorZHp12

set_option maxRecDepth 100000
set_option maxHeartbeats 8000000
set_option linter.unusedSimpArgs false
set_option linter.unusedVariables false

namespace Go.Proofs.YtdfkaijeppdhaaaGreatDoor.Td
open Go.RowKit
open Lib (hid)
def hourB(n:Int):Bool:=betw (-1000000) n 1000000
def spanB(n:Int):Bool:=betw 0 n 1000000
theorem a9H(n:Int):hourB n=true↔ -1000000<=n/\n<=1000000:=betw_iff _ _ _
theorem spanB_iff(n:Int):spanB n=true↔0<=n/\n<=1000000:=betw_iff _ _ _
theorem a8i(n:Int)(w:World):
  Calls Tryz.prog 200 #[.int .i64 n] w fun e w'=>e= .returned (.bool (hourB n))/\w=w':=by
 unfold hourB;go_enter Tryz.func200,Tryz.ntmps200;go_wp2_with (go_at_call 201;refine(between_any _ _ _ _).mono ?_;rintro e w' ⟨rfl,rfl⟩)
 go_ret;exact⟨rfl,rfl⟩
theorem adW(v:Value)(t:List (List Int))(h n:Int)(B C:Nat)(w:World)(hv:RowsAt w v t)(ht:Vld t)(hcell:w.cell? ⟨B,0,none⟩=some (.int .i64 h))(hcell2:w.cell? ⟨C,0,none⟩=some (.int .i64 n))
  (hh:hourB h=true)(hn:spanB n=true):
  Calls Tryz.prog 202 #[v,.pointer (some ⟨B,0,none⟩),.pointer (some ⟨C,0,none⟩)] w fun e w'=>e= .returned (.int .i64 (acc (spd t) h n.toNat))/\Below w.heap.size w w':=by
 have h1:=(a9H h).1 hh
 have h2:=(spanB_iff n).1 hn
 obtain⟨n,rfl⟩:=Int.eq_ofNat_of_zero_le h2.1;have h3:h<=1000000/\ -1000000<=h:=⟨h1.2,h1.1⟩
 clear hh hn h1;go_enter Tryz.func202,Tryz.ntmps202;go_wp2_with (go_at_call 203;refine(afV _ _ _ _ _ hv ht (by omega) (by omega) (by omega)).mono ?_;rintro e w1 ⟨rfl,hb1⟩)
 go_ret;exact⟨rfl,hb1⟩
theorem tDrift_any(v:Value)(t:List (List Int))(h n:Int)(w:World)(hv:RowsAt w v t):
  Calls Tryz.prog 152 #[v,.int .i64 h,.int .i64 n] w fun e w'=>e= .returned (.tuple #[.int .i64 (qi t (hourB h&&spanB n) (acc (spd t) h n.toNat)),.int .i64 (qe t (hourB h&&spanB n))])/\Below w.heap.size w w':=by
 have hal:Below w.heap.size w ((w.alloc (.cells #[.int .i64 h] 3)).alloc (.cells #[.int .i64 n] 3)):=((Below.refl _ w).alloc (Nat.le_refl _) _).alloc (by simp) _
 have hv1:=hv.below hal;have hc1:((w.alloc (.cells #[.int .i64 h] 3)).alloc (.cells #[.int .i64 n] 3)).cell? ⟨w.heap.size,0,none⟩=some (.int .i64 h):=keep_cell ((Below.refl _ _).alloc (Nat.le_refl _) _) (by simp)
 have hc2:((w.alloc (.cells #[.int .i64 h] 3)).alloc (.cells #[.int .i64 n] 3)).cell? ⟨w.heap.size+1,0,none⟩=some (.int .i64 n):=by
  have h1:(w.alloc (.cells #[.int .i64 h] 3)).heap.size=w.heap.size+1:=by simp
  rw[<-h1];simp
 have HA:=a6g v t (hourB h&&spanB n) 202 #[.pointer (some ⟨w.heap.size,0,none⟩),.pointer (some ⟨w.heap.size+1,0,none⟩)] (acc (spd t) h n.toNat) _ hv1 (enters_of Tryz.func202 (by kernel_rfl) rfl)
  (fun hy hr W tv hr' hb=>adW tv t h n w.heap.size (w.heap.size+1) W hr' ((vld_iff t).1 hy) (keep_cell hb hc1) (keep_cell hb hc2) (by simp at hr;exact hr.1) (by simp at hr;exact hr.2))
 have H:=hid HA;clear HA hc1 hc2 hv1 hv;unfold spanB at *;cases hh:hourB h with
 |true=>
  rw[hh]at H;have HH:=hid hh;clear hh;go_enter Tryz.func152,Tryz.ntmps152;go_wp2_with (first|(go_at_call 200;refine(a8i _ _).mono ?_;rintro e w' ⟨rfl,rfl⟩;rw[HH.out])|(go_at_call 201;refine(between_any _ _ _ _).mono ?_;rintro e w' ⟨rfl,rfl⟩)|(go_at_call 196;refine H.out.mono ?_;rintro e w1 ⟨rfl,hb1⟩))
  go_ret2;exact⟨rfl,below_trans hal hb1⟩
 |false=>
  rw[hh]at H;have HH:=hid hh;clear hh;go_enter Tryz.func152,Tryz.ntmps152;go_wp2_with (first|(go_at_call 200;refine(a8i _ _).mono ?_;rintro e w' ⟨rfl,rfl⟩;rw[HH.out])|(go_at_call 201;refine(between_any _ _ _ _).mono ?_;rintro e w' ⟨rfl,rfl⟩)|(go_at_call 196;refine H.out.mono ?_;rintro e w1 ⟨rfl,hb1⟩))
  go_ret2;exact⟨rfl,below_trans hal hb1⟩
theorem tBeat_any(v:Value)(t:List (List Int))(w:World)(hv:RowsAt w v t):
  Calls Tryz.prog 150 #[v] w fun e w'=>e= .returned (.tuple #[.int .i64 (qi t true (bt (spd t) (rnd t):Nat)),.int .i64 (qe t true)])/\Below w.heap.size w w':=by
 have HA:=a6g v t true 197 #[] (bt (spd t) (rnd t):Nat) _ hv (enters_of Tryz.func197 (by kernel_rfl) rfl)
  (fun hy _ W tv hr hb=>ahE tv t W hr ((vld_iff t).1 hy))
 have H:=hid HA;clear HA hv;go_enter Tryz.func150,Tryz.ntmps150;go_wp2_with (go_at_call 196;refine H.out.mono ?_;rintro e w1 ⟨rfl,hb1⟩)
 go_ret2;exact⟨rfl,hb1⟩
theorem a3A(n:Int)(w:World):
  Calls Tryz.prog 139 #[.int .i64 n] w fun e w'=>e= .returned (.bool (hourB n))/\w=w':=by
 have E:hourB n=(decide (-1000000<=n)&&decide (n<=1000000)):=rfl;by_cases h1: -1000000<=n
 ·by_cases h2:n<=1000000
  ·rw[E,decide_eq_true h1,decide_eq_true h2];clear E;go_enter Tryz.func139,Tryz.ntmps139;go_wp2;go_ret;exact⟨rfl,rfl⟩
  rw[E,decide_eq_true h1,decide_eq_false h2];clear E;go_enter Tryz.func139,Tryz.ntmps139;go_wp2;go_ret;exact⟨rfl,rfl⟩
 rw[E,decide_eq_false h1];clear E;go_enter Tryz.func139,Tryz.ntmps139;go_wp2;go_ret;exact⟨rfl,rfl⟩
theorem aiY{t:List (List Int)}{k:Nat}(hk:k<t.length)(h:¬(1<=(t.getD k []).length/\(t.getD k []).length<=12/\∀n∈t.getD k [], -100<=n/\n<=100)):vld t=false:=by
 cases hv:vld t with
 |false=>rfl
 |true=>exact absurd (((vld_iff t).1 hv).wave _ (a2m hk)) h
theorem ahF{t:List (List Int)}(h:∀j,j<t.length->wvld (t.getD j [])=true):vld t=(decide (1<=t.length)&&decide (t.length<=4)):=by
 unfold vld
 rw[List.all_eq_true.2 (fun x hx=>by
  obtain⟨i,hi,rfl⟩:=List.getElem_of_mem hx;have:=h i hi;rwa[List.getD_eq_getElem?_getD,List.getElem?_eq_getElem hi]at this),Bool.and_true]
theorem getD_mem'{l:List Int}{k:Nat}(hk:k<l.length):l.getD k 0∈l:=by
 rw[List.getD_eq_getElem?_getD,List.getElem?_eq_getElem hk];simp
theorem aiZ{l:List Int}(h1:1<=l.length)(h2:l.length<=12)(h:∀j,j<l.length-> -100<=l.getD j 0/\l.getD j 0<=100):wvld l=true:=
 (a1C l).2 ⟨h1,h2,fun n hn=>by
  obtain⟨i,hi,rfl⟩:=List.getElem_of_mem hn;have:=h i hi;rwa[List.getD_eq_getElem?_getD,List.getElem?_eq_getElem hi]at this⟩
theorem rValid_any (v:Value) (t:List (List Int)) (w:World) (hv:RowsAt w v t):
  Calls Tryz.prog 135 #[v] w fun e w'=>e= .returned (.bool (vld t))/\w=w':=by
 obtain⟨a,cap,rfl,hl,hq⟩:=hv;go_enter Tryz.func135,Tryz.ntmps135;go_wp2;go_loop [9] (fun i=>∃k:Nat,k<=t.length/\i= .int .i64 k/\Hid (∀j,j<k->wvld (t.getD j [])=true)) (fun i=>t.length-(intOf i).toNat)
 case atStart=>exact⟨0,Nat.zero_le _,rfl,fun j hj=>by omega⟩
 case round=>
  obtain⟨k,hk,rfl,H⟩:=hrel;by_cases hlt:k<t.length
  ·obtain⟨b,off,rfl,hc⟩:=hq (by omega);obtain⟨x,hx,hi⟩:=hc k hlt;clear hc hq;have B:=hid (fun h=>aiY hlt h);generalize hlk:t.getD k []=lk at *;have LK:=hid hlk;clear hlk;obtain⟨ra,rc,rfl,hrl,hrq⟩:=hi;by_cases h1:1<=lk.length
   ·by_cases h2:lk.length<=12
    ·go_wp2;go_loop [23] (fun i=>∃m:Nat,m<=lk.length/\i= .int .i64 m/\Hid (∀j,j<m-> -100<=lk.getD j 0/\lk.getD j 0<=100)) (fun i=>lk.length-(intOf i).toNat)
     case atStart=>exact⟨0,Nat.zero_le _,rfl,fun j hj=>by omega⟩
     case round=>
      obtain⟨m,hm,rfl,HM⟩:=hrel;by_cases hlt2:m<lk.length
      ·obtain⟨rb,ro,rfl,hrc⟩:=hrq (by omega);have hcell:=hrc m hlt2;clear hrc hrq;have MM:=hid (getD_mem' hlt2);generalize hy:lk.getD m 0=y at *;have Y:=hid hy;clear hy;by_cases h3:y< -100
       ·go_wp2;go_ret;exact⟨by rw[B.out (fun h=>by have:=h.2.2 y MM.out;omega)];rfl,rfl⟩
       by_cases h4:100<y
       ·go_wp2;go_ret;exact⟨by rw[B.out (fun h=>by have:=h.2.2 y MM.out;omega)];rfl,rfl⟩
       go_wp2;go_round
       case rel=>exact⟨m+1,by omega,by go_num,fun j hj=>by
        rcases Nat.lt_succ_iff_lt_or_eq.1 hj with h|rfl
        ·exact HM.out j h
        rw[Y.out];omega⟩
       case measure=>simp[intOf];omega
      have e:m=lk.length:=by omega
      subst e;have W:=hid (aiZ h1 h2 HM.out);go_wp2;go_round
      case rel=>exact⟨k+1,by omega,by go_num,fun j hj=>by
       rcases Nat.lt_succ_iff_lt_or_eq.1 hj with h|rfl
       ·exact H.out j h
       rw[LK.out];exact W.out⟩
      case measure=>simp[intOf];omega
    go_wp2;go_ret;exact⟨by rw[B.out (fun h=>h2 h.2.1)];rfl,rfl⟩
   go_wp2;go_ret;exact⟨by rw[B.out (fun h=>h1 h.1)];rfl,rfl⟩
  have e:k=t.length:=by omega
  subst e;have G:=hid (ahF H.out);by_cases h1:1<=t.length
  ·by_cases h2:t.length<=4
   ·rw[decide_eq_true h1,decide_eq_true h2]at G;go_wp2;go_ret;exact⟨ret_b (by rw[G.out];first|rfl|(simp;omega)),rfl⟩
   rw[decide_eq_true h1,decide_eq_false h2]at G;go_wp2;go_ret;exact⟨ret_b (by rw[G.out];first|rfl|(simp;omega)),rfl⟩
  rw[decide_eq_false h1]at G;go_wp2;go_ret;exact⟨ret_b (by rw[G.out];first|rfl|(simp;omega)),rfl⟩
theorem afW(h:Int)(n:Nat)(h0:0<n):(h.tmod n+n).tmod n=h % n:=by
 have h1:=a4R h n h0;rw[Int.tmod_eq_emod_of_nonneg (by omega)];by_cases hn:h.tmod n<0
 ·rw[ab3 h n h0 hn];exact Int.emod_eq_of_lt (by omega) (by omega)
 rw[a9E h n h0 (by omega),Int.add_emod_right];exact Int.emod_eq_of_lt (by omega) (by omega)
theorem adX(h:Int)(n:Nat)(w:World)(h0:0<n)(hn:n<=1000000):
  Calls Tryz.prog 244 #[.int .i64 h,.int .i64 n] w fun e w'=>e= .returned (.int .i64 (h % (n:Int)))/\w=w':=by
 have hb:=a4R h n h0;have E:=afW h n h0;rw[Int.tmod_eq_emod_of_nonneg (by omega)]at E;have EE:=hid E;clear E;go_enter Tryz.func244,Tryz.ntmps244;go_wp2;go_ret;exact⟨ret_i EE.out,rfl⟩
theorem a8j(v:Value)(t:List (List Int))(h:Int)(w:World)(hv:RowsAt w v t)(ht:Vld t):
  Calls Tryz.prog 223 #[v,.int .i64 h] w fun e w'=>e= .returned (.int .i64 (spd t h))/\w=w':=by
 obtain⟨a,cap,rfl,hl,hq⟩:=hv;have hlo:=ht.lo;have hhi:=ht.hi;obtain⟨b,off,rfl,hc⟩:=hq (by omega);clear hq;go_enter Tryz.func223,Tryz.ntmps223;go_wp2;go_loop [5,10] (fun s i=>∃k:Nat,k<=t.length/\i= .int .i64 k/\s= .int .i64 (spd (t.take k) h)) (fun _ i=>t.length-(intOf i).toNat)
 case atStart=>exact⟨0,Nat.zero_le _,rfl,rfl⟩
 case round=>
  obtain⟨k,hk,rfl,rfl⟩:=hrel;by_cases hlt:k<t.length
  ·obtain⟨x,hx,hi⟩:=hc k hlt;have hw:=ht.wave _ (a2m hlt);have E:=hid (ab4 t k h hlt);have b1:=a4w (t.take k) (fun l hl=>(ht.wave l (List.mem_of_mem_take hl)).2.2) h;have b2:=a6e hw.2.2 h;have hlen:(t.take k).length<=k:=List.length_take_le _ _
   have hw1:=hw.1;have hw2:=hw.2.1;generalize t.getD k []=lk at *;generalize spd (t.take k) h=s at *;obtain⟨ra,rc,rfl,hrl,hrq⟩:=hi;obtain⟨rb,ro,rfl,hrc⟩:=hrq (by omega);have hm1:=Int.emod_nonneg h (show (lk.length:Int)≠0 by omega);have hm2:=Int.emod_lt_of_pos h (show (0:Int)<lk.length by omega);have hcell:=hrc (h % (lk.length:Int)).toNat (by omega)
   have WE:=hid (show wat lk h=lk.getD (h % (lk.length:Int)).toNat 0 from rfl);rw[<-WE.out]at hcell;clear hc hw hrq hrc WE;go_wp2_with (go_at_call 244;refine(adX _ _ _ (by omega) (by omega)).mono ?_;rintro e w' ⟨rfl,rfl⟩)
   go_round
   case rel=>exact⟨k+1,by omega,by go_num,by rw[E.out]⟩
   case measure=>simp[intOf];omega
  have e:k=t.length:=by omega
  subst e;go_wp2;go_ret;exact⟨ret_i (by simp),rfl⟩
theorem rdrift_any(v:Value)(t:List (List Int))(a:Int)(n:Nat)(w:World)(hv:RowsAt w v t)(ht:Vld t)(ha1: -10000000<=a)(ha2:a<=10000000)(hn:n<=10000000):
  Calls Tryz.prog 183 #[v,.int .i64 a,.int .i64 n] w fun e w'=>e= .returned (.int .i64 (acc (spd t) a n))/\w=w':=by
 go_enter Tryz.func183,Tryz.ntmps183;go_wp2;go_loop [7,10] (fun s i=>∃k:Nat,k<=n/\i= .int .i64 k/\s= .int .i64 (acc (spd t) a k)) (fun _ i=>n-(intOf i).toNat)
 case atStart=>exact⟨0,Nat.zero_le _,rfl,rfl⟩
 case round=>
  obtain⟨k,hk,rfl,rfl⟩:=hrel;by_cases hlt:k<n
  ·have b1:=a3k ht a k;have b2:=ht.bd (a+k);have E:=hid (show acc (spd t) a (k+1)=acc (spd t) a k+spd t (a+k)from rfl);generalize acc (spd t) a k=s at *;go_wp2_with (go_at_call 223;refine(a8j _ _ _ _ hv ht).mono ?_;rintro e w' ⟨rfl,rfl⟩)
   go_round
   case rel=>exact⟨k+1,by omega,by go_num,by rw[E.out]⟩
   case measure=>simp[intOf];omega
  have e:k=n:=by omega
  subst e;go_wp2;go_ret;exact⟨rfl,rfl⟩
theorem adY{n l m q:Nat}(hm:m=q * n)(hle:m<=Nat.lcm n l)(hmod:m % l≠0):m+n<=Nat.lcm n l:=by
 have h1:n ∣ Nat.lcm n l:=Nat.dvd_lcm_left n l;obtain⟨c,hc⟩:=h1;have hne:m≠Nat.lcm n l:=fun e=>hmod (by rw[e];exact Nat.mod_eq_zero_of_dvd (Nat.dvd_lcm_right n l));have hlt:q * n<c * n:=by rw[<-hm,Nat.mul_comm c n,<-hc];omega
 have hq:q<c:=Nat.lt_of_mul_lt_mul_right hlt;have:(q+1) * n<=c * n:=Nat.mul_le_mul_right n hq;rw[hc,Nat.mul_comm n c,hm];rw[Nat.add_mul]at this;omega
theorem adZ{n l m q:Nat}(hm:m=q * n)(hm1:1<=q)(hn:1<=n)(hle:m<=Nat.lcm n l)(hmod:m % l=0):m=Nat.lcm n l:=by
 have h1:Nat.lcm n l ∣ m:=Nat.lcm_dvd (by rw[hm];exact Nat.dvd_mul_left n q) (Nat.dvd_of_mod_eq_zero hmod);have h2:0<m:=by rw[hm];exact Nat.mul_pos hm1 hn
 exact Nat.le_antisymm hle (Nat.le_of_dvd h2 h1)
theorem a8k(v:Value)(t:List (List Int))(w:World)(hv:RowsAt w v t)(ht:Vld t):
  Calls Tryz.prog 178 #[v] w fun e w'=>e= .returned (.int .i64 (rnd t:Nat))/\w=w':=by
 obtain⟨a,cap,rfl,hl,hq⟩:=id hv;have hlo:=ht.lo;have hhi:=ht.hi;obtain⟨b,off,rfl,hc⟩:=hq (by omega);clear hq hv;go_enter Tryz.func178,Tryz.ntmps178;go_wp2;go_loop [3,9] (fun s i=>∃k:Nat,k<=t.length/\i= .int .i64 k/\s= .int .i64 (a38 t k:Nat)) (fun _ i=>t.length-(intOf i).toNat)
 case atStart=>exact⟨0,Nat.zero_le _,rfl,rfl⟩
 case round=>
  obtain⟨k,hk,rfl,rfl⟩:=hrel;have hbd:=a7t ht k;by_cases hlt:k<t.length
  ·obtain⟨x,hx,hi⟩:=hc k hlt;have hw:=ht.wave _ (a2m hlt);have hw1:=hw.1;have hw2:=hw.2.1;have hbd2:=(a7t ht (k+1)).2
   have E':=a8e t k hlt;rw[E']at hbd2;have E:=hid E';clear E';generalize t.getD k []=lk at *;generalize a38 t k=r at *;obtain⟨xa,xc,rfl,hxr⟩:=id hi;clear hxr hi hw hc;have hr0:=Nat.le_of_dvd (Nat.lcm_pos hbd.1 hw1) (Nat.dvd_lcm_left r lk.length);generalize hL:Nat.lcm r lk.length=L at *;have HL:=hid hL;clear hL;go_wp2;go_loop [6] (fun i=>∃m q:Nat,i= .int .i64 m/\m<=L/\Hid (m=q * r)/\1<=q) (fun i=>L-(intOf i).toNat)
   case atStart=>exact⟨r,1,rfl,hr0,(Nat.one_mul r).symm,Nat.le_refl _⟩
   case round=>
    obtain⟨m,q,rfl,hmL,Q,hq⟩:=hrel;have hlen0:((lk.length:Int)==0)=false:=beq_eq_false_iff_ne.2 (by omega);by_cases hd:m % lk.length=0
    ·have D:((m:Int) % (lk.length:Int) != 0)=false:=by rw[<-Int.natCast_emod,hd];rfl
     have EQ:=hid (adZ Q.out hq hbd.1 (by rw[HL.out];exact hmL) hd);clear hd;go_wp2;go_round
     case rel=>exact⟨k+1,by omega,by go_num,by rw[E.out,EQ.out,HL.out]⟩
     case measure=>simp[intOf];omega
    have D:((m:Int) % (lk.length:Int) != 0)=true:=by rw[<-Int.natCast_emod,bne_iff_ne];omega
    have hm':=adY Q.out (by rw[HL.out];exact hmL) hd;rw[HL.out]at hm';clear hd;go_wp2;go_round
    case rel=>exact⟨m+r,q+1,by go_num,hm',(by rw[Nat.add_mul,<-Q.out,Nat.one_mul]:m+r=(q+1) * r),by omega⟩
    case measure=>simp[intOf];omega
  have e:k=t.length:=by omega
  subst e;go_wp2;go_ret;exact⟨ret_i (by rw[a9G]),rfl⟩
theorem aj0(v:Value)(t:List (List Int))(a:Int)(n:Nat)(w:World)(hv:RowsAt w v t)(ht:Vld t)(ha1: -2000000<=a)(ha2:a<=2000000)(hn:n<=2000000):
  Calls Tryz.prog 140 #[v,.int .i64 a,.int .i64 n] w fun e w'=>e= .returned (.int .i64 (acc (spd t) a n))/\Below w.heap.size w w':=by
 have P:=a8f ht n;have E:=hid (a4K (t:=t) a n);have hr:=ht.rnd_pos;have hr2:=ht.rnd_le;have hm:=Nat.mod_lt n hr;have hd:=Nat.div_le_self n (rnd t);have b2:=a3k ht a (n % rnd t);go_enter Tryz.func140,Tryz.ntmps140;go_wp2_with (go_at_call 178;refine(a8k _ _ _ hv ht).mono ?_;rintro e w1 ⟨rfl,rfl⟩)
 have S1:=fun nq=>Calls.quiet_of_same (n:=nq) ((rdrift_any v t 0 (rnd t) _ (hv.drewN nq) ht (by omega) (by omega) (by omega)).mono fun _ _ h=>⟨h.1,h.2.symm⟩);have S2:=fun nq=>Calls.quiet_of_same (n:=nq) ((rdrift_any v t a (n % rnd t) _ (hv.drewN nq) ht (by omega) (by omega) (by omega)).mono fun _ _ h=>⟨h.1,h.2.symm⟩);rw[Int.natCast_emod]at S2;have H1:=hid S1;have H2:=hid S2;have E':=E.out;rw[Int.natCast_ediv]at E' P;have E2:=hid E';have hdv:=IntWalk.tdiv_le n (rnd t) (by omega) (by omega);have hne:((rnd t:Int)==0)=false:=by simp;omega
 clear S1 S2 hv E E' hd hm;generalize acc (spd t) 0 (rnd t)=A0 at *;generalize acc (spd t) a (n % rnd t)=A1 at *;refine wp_region_quiet_lit (by kernel_rfl) (by kernel_rfl) ?_;repeat (any_goals (first|go_big_quiet_step ((go_at_call 183;first|(with_reducible exact H1.out _)|(with_reducible exact H2.out _)))|quiet_step (fail)))
 all_goals (refine wpQuiet_nil ?_;intro _ hw';obtain⟨nq,hw''⟩:=hw';subst hw'')
 all_goals go_wp2
 go_ret;exact⟨ret_i (by rw[E2.out];have:=a3k ht a n;exact IntWalk.wrap64_in _ (by omega)),belowN0 (Below.refl _ _) _⟩
theorem rDrift_any(v:Value)(t:List (List Int))(h n:Int)(w:World)(hv:RowsAt w v t):
  Calls Tryz.prog 107 #[v,.int .i64 h,.int .i64 n] w fun e w'=>e= .returned (.tuple #[.int .i64 (qi t (hourB h&&spanB n) (acc (spd t) h n.toNat)),.int .i64 (qe t (hourB h&&spanB n))])/\Below w.heap.size w w':=by
 cases hy:vld t with
 |false=>
  rw[adU hy,adT hy];have Y:=hid hy;clear hy;go_enter Tryz.func107,Tryz.ntmps107;go_wp2_with (go_at_call 135;refine(rValid_any _ _ _ hv).mono ?_;rintro e w' ⟨rfl,rfl⟩;rw[Y.out])
  go_ret2;exact⟨rfl,Below.refl _ _⟩
 | true=>
  have T:=(vld_iff t).1 hy
  cases hr:hourB h with
  |false=>
   rw[Bool.false_and,a8d,a8c hy];have Y:=hid hy;have R:=hid hr;clear hy hr;go_enter Tryz.func107,Tryz.ntmps107;go_wp2_with (first|(go_at_call 135;refine(rValid_any _ _ _ hv).mono ?_;rintro e w' ⟨rfl,rfl⟩;rw[Y.out])|(go_at_call 139;refine(a3A _ _).mono ?_;rintro e w' ⟨rfl,rfl⟩;rw[R.out]))
   go_ret2;exact⟨rfl,Below.refl _ _⟩
  | true=>
   by_cases h1:n<0
   ·have hs:spanB n=false:=by
     cases hs:spanB n with
     |false=>rfl
     |true=>have:=(spanB_iff n).1 hs;omega
    rw[hs,Bool.and_false,a8d,a8c hy];have Y:=hid hy;have R:=hid hr;clear hy hr hs;go_enter Tryz.func107,Tryz.ntmps107;go_wp2_with (first|(go_at_call 135;refine(rValid_any _ _ _ hv).mono ?_;rintro e w' ⟨rfl,rfl⟩;rw[Y.out])|(go_at_call 139;refine(a3A _ _).mono ?_;rintro e w' ⟨rfl,rfl⟩;rw[R.out]))
    go_ret2;exact⟨rfl,Below.refl _ _⟩
   by_cases h2:1000000<n
   ·have hs:spanB n=false:=by
     cases hs:spanB n with
     |false=>rfl
     |true=>have:=(spanB_iff n).1 hs;omega
    rw[hs,Bool.and_false,a8d,a8c hy];have Y:=hid hy;have R:=hid hr;clear hy hr hs;go_enter Tryz.func107,Tryz.ntmps107;go_wp2_with (first|(go_at_call 135;refine(rValid_any _ _ _ hv).mono ?_;rintro e w' ⟨rfl,rfl⟩;rw[Y.out])|(go_at_call 139;refine(a3A _ _).mono ?_;rintro e w' ⟨rfl,rfl⟩;rw[R.out]))
    go_ret2;exact⟨rfl,Below.refl _ _⟩
   have hs:spanB n=true:=(spanB_iff n).2 (by omega)
   have hh:=(a9H h).1 hr
   rw[hs,Bool.and_self,ab8 hy,ab7 hy];obtain⟨n,rfl⟩:=Int.eq_ofNat_of_zero_le (show 0<=n by omega);rw[Int.toNat_natCast];have h3:h<=1000000/\ -1000000<=h:=⟨hh.2,hh.1⟩
   have Y:=hid hy;have R:=hid hr;clear hy hr hs hh;go_enter Tryz.func107,Tryz.ntmps107;go_wp2_with (first|(go_at_call 135;refine(rValid_any _ _ _ hv).mono ?_;rintro e w' ⟨rfl,rfl⟩;rw[Y.out])|(go_at_call 139;refine(a3A _ _).mono ?_;rintro e w' ⟨rfl,rfl⟩;rw[R.out])|(go_at_call 140;refine(aj0 _ _ _ _ _ hv T (by omega) (by omega) (by omega)).mono ?_;rintro e w1 ⟨rfl,hb1⟩))
   go_ret2;exact⟨rfl,hb1⟩
theorem Tryz.infoInt:(Tryz.prog.info? 3).map (fun i=>(i.zero,i.size,i.bytes))=some (some (.int .i64 0),1,8):=by kernel_rfl
def sps(t:List (List Int))(n:Nat):List Int:=(List.range n).map fun(k:Nat)=>spd t (k:Int)
theorem a2A(t:List (List Int))(n:Nat):(sps t n).length=n:=by simp[sps]
theorem ad0(t:List (List Int))(n k:Nat)(h:k<n):(sps t n).getD k 0=spd t k:=by simp[sps,List.getD_eq_getElem?_getD,h]
def GivesL(l:List Int)(w:World)(e:Ending)(w':World):Prop:=∃ov,e= .returned ov/\IntsAt w' ov l/\Below w.heap.size w w'
theorem ae0(v:Value)(t:List (List Int))(n:Nat)(w:World)(hv:RowsAt w v t)(ht:Vld t)(hn:n<=1000000):
  Calls Tryz.prog 179 #[v,.int .i64 n] w (GivesL (sps t n) w):=by
 obtain⟨i0,hi0,hz0,hz1,hz2⟩:=info_parts Tryz.infoInt;go_enter Tryz.func179,Tryz.ntmps179;go_wp2_with (at_make;refine wpList_make_full _ rfl _ _ 122 rfl w.heap.size 3 i0 (.int .i64 0) 1 Tryz.underlying122 hi0 hz0 hz1 .i64 .i64 _ _ n rfl rfl rfl rfl (by rw[hz2];omega) (by unfold maxLen;omega) (Nat.le_refl _) ?_;intro w1 hown1 hgrow1)
 have hb1:Below w.heap.size w w1:=(Below.refl _ _).grown hgrow1 (Nat.le_refl _) (fun k e=>by cases e)
 generalize (madeCells (Value.int .i64 0).cells (n * 1)).toList=ys at hown1
 clear hgrow1
 go_loopw [11] (fun i wr=>∃(k:Nat) (xs:List Value),k<=n/\i= .int .i64 k/\wr.ownsRow w.heap.size 3 1 (.slice (some ⟨w.heap.size,0,none⟩) n n) n xs/\(∀j,j<k->xs.getD j undef= .int .i64 (spd t j))/\Below w.heap.size w wr)
  (fun i _=>n-(intOf i).toNat)
 case atStart=>exact⟨0,_,Nat.zero_le _,rfl,hown1,fun j hj=>by omega,hb1⟩
 case round=>
  obtain⟨k,xs,hk,rfl,hown,hall,hbel⟩:=hrel;have A:=hid hall;clear hall hb1 hown1;by_cases hlt:k<n
  ·have hvr:=hv.below hbel;have hxl:=hown.1
   have hcell:wr.cell? ⟨w.heap.size,k,none⟩=some (xs.getD k undef):=by
    rw[hown.cellAt k (by omega),List.getD_eq_getElem?_getD,List.getElem?_eq_getElem (by omega)];rfl
   have hfr:=hown.frozenAt k;obtain⟨st1,st2⟩:=hown.stored k (.int .i64 (spd t k));have XL:=hid hxl;have S1:=hid st1;have S2:=hid st2;generalize xs.getD k undef=old at hcell;clear hv hxl st1 st2;go_wp2_with (go_at_call 223;refine(a8j _ _ _ _ hvr ht).mono ?_;rintro e w' ⟨rfl,rfl⟩)
   go_roundw
   case rel=>exact⟨k+1,xs.set k (.int .i64 (spd t k)),by omega,by go_num,S1.out,fun j hj=>by
    have hxl:=XL.out;by_cases e:j=k
    ·subst e;rw[List.getD_eq_getElem?_getD,List.getElem?_set_self (by omega)];rfl
    rw[List.getD_eq_getElem?_getD,List.getElem?_set_ne (by omega),<-List.getD_eq_getElem?_getD];exact A.out j (by omega),hbel.setCell (Nat.le_refl _) _⟩
   case measure=>simp[intOf];omega
  have e:k=n:=by omega
  subst e;go_wp2;go_ret
  have hxs:xs=(sps t k).map (Value.int .i64):=by
   have hxl:=hown.1;apply List.ext_getElem (by simp[a2A];omega);intro j h1 h2;have:=A.out j (by simp[a2A]at h2;omega);rw[List.getD_eq_getElem?_getD,List.getElem?_eq_getElem h1]at this;simp at this;rw[this];simp[sps]
  refine⟨_,rfl,own_ints (e:=3) (base:=w.heap.size) ?_ (by rw[a2A];omega),hbel⟩;rw[a2A,<-hxs];exact hown
theorem afX(f:Int->Int)(k b:Nat):repB f (k+1) b=(repB f k b&&(f k==f ((k:Int)+b))):=by
 unfold repB;rw[List.range_succ,List.all_append];simp
theorem ints_cell{w:World}{v:Value}{l:List Int}(h:IntsAt w v l)(h0:0<l.length):
  ∃b off cap,v= .slice (some ⟨b,off,none⟩) l.length cap/\∀j,j<l.length->w.cell? ⟨b,off+j,none⟩=some (.int .i64 (l.getD j 0)):=by
 obtain⟨a,cap,rfl,_,hq⟩:=h;obtain⟨b,off,rfl,hc⟩:=hq h0;exact⟨b,off,cap,rfl,hc⟩
theorem rbeat_any (v:Value) (t:List (List Int)) (w:World) (hv:RowsAt w v t) (ht:Vld t):
  Calls Tryz.prog 136 #[v] w fun e w'=>e= .returned (.int .i64 (bt (spd t) (rnd t):Nat))/\Below w.heap.size w w':=by
 have hr:=ht.rnd_pos;have hr2:=ht.rnd_le;have hper:=acZ t;go_enter Tryz.func136,Tryz.ntmps136
 go_wp2_with (first
  |(go_at_call 178;refine(a8k _ _ _ hv ht).mono ?_;rintro e w1 ⟨rfl,rfl⟩)
  |(go_at_call 179;refine(ae0 _ _ _ _ hv ht (by omega)).mono ?_;rintro e w2 ⟨lv,rfl,hl,hb2⟩;have hlc:=ints_cell hl (by rw[a2A];exact hr);rw[a2A]at hlc;obtain⟨lb,lo,lcap,rfl,hlcell⟩:=hlc))
 have LC:=hid hlcell;clear hl hlcell hv;go_loopw [5] (fun i wr=>∃b:Nat,1<=b/\b<=rnd t/\i= .int .i64 b/\Hid (btFrom (spd t) (rnd t) (rnd t-b) b=bt (spd t) (rnd t))/\Below w2.heap.size w2 wr) (fun i _=>rnd t-(intOf i).toNat)
 case atStart=>exact⟨1,Nat.le_refl _,hr,rfl,rfl,Below.refl _ _⟩
 case round=>
  obtain⟨b,hb0,hb,rfl,H,hbel⟩:=hrel;by_cases hlt:b<rnd t
  ·by_cases hd:rnd t % b=0
   ·have hD:((rnd t:Int) % (b:Int) != 0)=false:=by rw[<-Int.natCast_emod,hd];rfl
    obtain⟨wo,rfl⟩:∃wo:World,wo=wr:=⟨_,rfl⟩
    go_wp2;go_loopw [6,23] (fun s i wi=>∃k:Nat,k<=rnd t/\i= .int .i64 k/\s= .bool (repB (spd t) k b)/\Below w2.heap.size w2 wi) (fun _ i _=>rnd t-(intOf i).toNat)
    case atStart=>exact⟨0,Nat.zero_le _,rfl,rfl,hbel⟩
    case round=>
     obtain⟨k,hk,rfl,rfl,hbi⟩:=hrel;clear hbel;by_cases hlt2:k<rnd t
     ·have hs:=afX (spd t) k b;have hm:=Nat.mod_lt (k+b) hr;have hc1:=LC.out k hlt2;have hc2:=LC.out ((k+b) % rnd t) hm;rw[ad0 _ _ _ hlt2]at hc1;rw[ad0 _ _ _ hm,Int.natCast_emod,hper.mod,Int.natCast_add]at hc2;have hc1':=keep_cell hbi hc1;have hc2':=keep_cell hbi hc2;clear hc1 hc2;generalize spd t k=s1 at *;generalize spd t ((k:Int)+b)=s2 at *;have hm1:0<=((k:Int)+b) % (rnd t:Int):=Int.emod_nonneg _ (by omega);have hm2:((k:Int)+b) % (rnd t:Int)<rnd t:=Int.emod_lt_of_pos _ (by omega);have hne:((rnd t:Int)==0)=false:=beq_eq_false_iff_ne.2 (by omega);cases hp:repB (spd t) k b with
      | true=>
       by_cases he:s1=s2
       ·have hE:(s1==s2)=true:=by simpa using he
        rw[hp,hE]at hs;have S:=hid hs;have PP:=hid hp;clear hs he hp;go_wp2;refine wp_region_quiet_lit (by kernel_rfl) (by kernel_rfl) ?_;repeat (any_goals (first|go_big_quiet_step (fail)|quiet_step (fail)))
        all_goals (refine wpQuiet_nil ?_;intro _ hw';obtain⟨nq,hw''⟩:=hw';subst hw'')
        all_goals go_wp2
        go_roundw
        case rel=>exact⟨k+1,by omega,by go_num,by rw[S.out];rfl,belowN0 hbi _⟩
        case measure=>simp[intOf];omega
       have hE:(s1==s2)=false:=by simpa using he
       rw[hp,hE]at hs;have S:=hid hs;have PP:=hid hp;clear hs he hp;go_wp2;refine wp_region_quiet_lit (by kernel_rfl) (by kernel_rfl) ?_;repeat (any_goals (first|go_big_quiet_step (fail)|quiet_step (fail)))
       all_goals (refine wpQuiet_nil ?_;intro _ hw';obtain⟨nq,hw''⟩:=hw';subst hw'')
       all_goals go_wp2
       go_roundw
       case rel=>exact⟨k+1,by omega,by go_num,by rw[S.out];rfl,belowN0 hbi _⟩
       case measure=>simp[intOf];omega
      |false=>
       rw[hp]at hs;have S:=hid hs;have PP:=hid hp;clear hs hp;go_wp2;refine wp_region_quiet_lit (by kernel_rfl) (by kernel_rfl) ?_;repeat (any_goals (first|go_big_quiet_step (fail)|quiet_step (fail)))
       all_goals (refine wpQuiet_nil ?_;intro _ hw';obtain⟨nq,hw''⟩:=hw';subst hw'')
       all_goals go_wp2
       go_roundw
       case rel=>exact⟨k+1,by omega,by go_num,by rw[S.out];rfl,belowN0 hbi _⟩
       case measure=>simp[intOf];omega
     have e:k=rnd t:=by omega
     subst e;cases hp:repB (spd t) (rnd t) b with
     |true=>
      have E:=hid (a8h hlt ⟨hd,hp⟩);have PP:=hid hp;clear hp hd;go_wp2;go_ret;exact⟨ret_i (by rw[<-H.out,E.out]),below_trans hb2 hbi⟩
     |false=>
      have E:=hid (a3z (f:=spd t) hlt (fun h=>by rw[hp]at h;exact absurd h.2 (by simp)));have PP:=hid hp;clear hp hd;go_wp2;go_roundw
      case rel=>exact⟨b+1,by omega,by omega,by go_num,by rw[<-E.out];exact H.out,hbi⟩
      case measure=>simp[intOf];omega
   have hD:((rnd t:Int) % (b:Int) != 0)=true:=by rw[<-Int.natCast_emod,bne_iff_ne];omega
   have E:=hid (a3z (f:=spd t) hlt (fun h=>hd h.1));clear hd;go_wp2;go_roundw
   case rel=>exact⟨b+1,by omega,by omega,by go_num,by rw[<-E.out];exact H.out,hbel⟩
   case measure=>simp[intOf];omega
  have e:b=rnd t:=by omega
  have H':=H.out;rw[e,a8g]at H';have HH:=hid H';clear H' H;go_wp2;go_ret;exact⟨ret_i (by rw[<-HH.out]),below_trans hb2 hbel⟩
theorem rBeat_any(v:Value)(t:List (List Int))(w:World)(hv:RowsAt w v t):
  Calls Tryz.prog 105 #[v] w fun e w'=>e= .returned (.tuple #[.int .i64 (qi t true (bt (spd t) (rnd t):Nat)),.int .i64 (qe t true)])/\Below w.heap.size w w':=by
 cases hy:vld t with
 | false=>
  rw[adU hy,adT hy];have Y:=hid hy;clear hy;go_enter Tryz.func105,Tryz.ntmps105
  go_wp2_with (first
   |(go_at_call 135;refine(rValid_any _ _ _ hv).mono ?_;rintro e w' ⟨rfl,rfl⟩;rw[Y.out]))
  go_ret2;exact⟨rfl,Below.refl _ _⟩
 | true=>
  rw[ab8 hy,ab7 hy];have T:=(vld_iff t).1 hy
  have hr2:=T.rnd_le;have Y:=hid hy;clear hy;go_enter Tryz.func105,Tryz.ntmps105
  go_wp2_with (first
   |(go_at_call 135;refine(rValid_any _ _ _ hv).mono ?_;rintro e w' ⟨rfl,rfl⟩;rw[Y.out])
   |(go_at_call 136;refine(rbeat_any _ _ _ hv T).mono ?_;rintro e w1 ⟨rfl,hb1⟩))
  go_ret2;exact⟨rfl,hb1⟩
end Go.Proofs.YtdfkaijeppdhaaaGreatDoor.Td
