/- Texts of this claim, laid together: TdA, TdB, TdC, TdD. -/
import Derived.Test.YtdfkaijeppdhaaaGreatDoorZHp11
import Derived.Test.YtdfkaijeppdhaaaGreatDoorProg
import Derived.KernelRfl
import Derived.BigQuiet
import Derived.Lib.Hide
import Derived.Deep.QuietTactic
import Derived.Shelf.Abstract
import Derived.Deep.RegionWith

set_option maxRecDepth 100000
set_option maxHeartbeats 8000000
set_option linter.unusedSimpArgs false
set_option linter.unusedVariables false

namespace Go.Proofs.YtdfkaijeppdhaaaGreatDoor.Td
open Go.RowKit
open Lib (hid)
def betw(a b c:Int):Bool:=decide (a<=b)&&decide (b<=c)
theorem between_any(a b c:Int)(w:World):
  Calls Tryz.prog 201 #[.int .i64 a,.int .i64 b,.int .i64 c] w fun e w'=>e= .returned (.bool (betw a b c))/\w=w':=by
 unfold betw;by_cases h1:a<=b
 ·by_cases h2:b<=c
  ·go_enter Tryz.func201,Tryz.ntmps201;go_wp2;go_ret;exact⟨by simp[h1,h2],rfl⟩
  go_enter Tryz.func201,Tryz.ntmps201;go_wp2;go_ret;exact⟨by simp[h2],rfl⟩
 go_enter Tryz.func201,Tryz.ntmps201;go_wp2;go_ret;exact⟨by rw[decide_eq_false (show¬a<=b by omega)];rfl,rfl⟩
theorem a4R(h:Int)(n:Nat)(h0:0<n): -(n:Int)<h.tmod n/\h.tmod n<n:=by
 have h1:=Int.tmod_lt_of_pos h (show (0:Int)<n by omega);have h2:=Int.tmod_lt_of_pos (-h) (show (0:Int)<n by omega);rw[Int.neg_tmod]at h2;omega
theorem ab3(h:Int)(n:Nat)(h0:0<n)(hn:h.tmod n<0):h % n=h.tmod n+n:=by
 have h1:=a4R h n h0;have h2:=Int.mul_tdiv_add_tmod h n
 have e:h=(h.tmod n+n)+n * (h.tdiv n+ -1):=by
  rw[Int.mul_add];generalize (n:Int) * h.tdiv n=x at *;omega
 conv=>lhs;rw[e]
 rw[Int.add_mul_emod_self_left];exact Int.emod_eq_of_lt (by omega) (by omega)
theorem a9E(h:Int)(n:Nat)(h0:0<n)(hn:0<=h.tmod n):h % n=h.tmod n:=by
 have h1:=a4R h n h0;have h2:=Int.mul_tdiv_add_tmod h n;have e:h=h.tmod n+n * h.tdiv n:=by omega
 conv=>lhs;rw[e]
 rw[Int.add_mul_emod_self_left];exact Int.emod_eq_of_lt (by omega) (by omega)
theorem ret_b{a b:Bool}(h:a=b):Ending.returned (.bool a)= .returned (.bool b):=by rw[h]
theorem ret_i{a b:Int}(h:a=b):Ending.returned (.int .i64 a)= .returned (.int .i64 b):=by rw[h]
theorem at_any(v:Value)(l:List Int)(h:Int)(w:World)(hv:IntsAt w v l)(h0:0<l.length):
  Calls Tryz.prog 255 #[v,.int .i64 h] w fun e w'=>e= .returned (.int .i64 (wat l h))/\w=w':=by
 obtain⟨a,cap,rfl,hl,hq⟩:=hv;obtain⟨b,off,rfl,hc⟩:=hq h0;clear hq;have ⟨hb1,hb2⟩:=a4R h l.length h0;by_cases hn:h.tmod l.length<0
 ·have E:=hid (ab3 h l.length h0 hn);have hcell:=hc (h.tmod l.length+l.length).toNat (by omega)
  clear hc;generalize hx:l.getD _ 0=x at hcell;have X:=hid hx;clear hx;go_enter Tryz.func255,Tryz.ntmps255;go_wp2;go_ret;exact⟨ret_i (by unfold wat;rw[E.out];exact X.out.symm),rfl⟩
 have E:=hid (a9E h l.length h0 (by omega));have hcell:=hc (h.tmod l.length).toNat (by omega)
 clear hc;generalize hx:l.getD _ 0=x at hcell;have X:=hid hx;clear hx;go_enter Tryz.func255,Tryz.ntmps255;go_wp2;go_ret;exact⟨ret_i (by unfold wat;rw[E.out];exact X.out.symm),rfl⟩
theorem ab4(t:List (List Int))(k:Nat)(h:Int)(hk:k<t.length):spd (t.take (k+1)) h=spd (t.take k) h+wat (t.getD k []) h:=by
 rw[List.take_succ_eq_append_getElem hk,adQ,a5p,aiW,List.getD_eq_getElem?_getD,List.getElem?_eq_getElem hk];simp
theorem a2m{t:List (List Int)}{k:Nat}(hk:k<t.length):t.getD k []∈t:=by
 rw[List.getD_eq_getElem?_getD,List.getElem?_eq_getElem hk];simp
theorem a3H(v:Value)(t:List (List Int))(h:Int)(w:World)(hv:RowsAt w v t)(ht:Vld t):
  Calls Tryz.prog 250 #[v,.int .i64 h] w fun e w'=>e= .returned (.int .i64 (spd t h))/\w=w':=by
 obtain⟨a,cap,rfl,hl,hq⟩:=hv;have hlo:=ht.lo;have hhi:=ht.hi;obtain⟨b,off,rfl,hc⟩:=hq (by omega);clear hq;go_enter Tryz.func250,Tryz.ntmps250;go_wp2;go_loop [5,10] (fun s i=>∃k:Nat,k<=t.length/\i= .int .i64 k/\s= .int .i64 (spd (t.take k) h)) (fun _ i=>t.length-(intOf i).toNat)
 case atStart=>exact⟨0,Nat.zero_le _,rfl,rfl⟩
 case round=>
  obtain⟨k,hk,rfl,rfl⟩:=hrel;by_cases hlt:k<t.length
  ·obtain⟨x,hx,hi⟩:=hc k hlt;have hw:=ht.wave _ (a2m hlt);have E:=hid (ab4 t k h hlt);have b1:=a4w (t.take k) (fun l hl=>(ht.wave l (List.mem_of_mem_take hl)).2.2) h;have b2:=a6e hw.2.2 h;have hlen:(t.take k).length<=k:=List.length_take_le _ _
   have hw1:=hw.1;have ht4:t.length<=4:=hhi;generalize t.getD k []=lk at *;generalize spd (t.take k) h=s at *;clear hc hw;go_wp2_with (go_at_call 255;refine(at_any _ _ _ _ hi hw1).mono ?_;rintro e w' ⟨rfl,rfl⟩)
   go_round
   case rel=>exact⟨k+1,by omega,by go_num,by rw[E.out]⟩
   case measure=>simp[intOf];omega
  have e:k=t.length:=by omega
  subst e;go_wp2;go_ret;exact⟨ret_i (by simp),rfl⟩
def fidx{α:Type}(p:α->Bool):List α->Int
 |[]=> -1
 |x::l=>if p x then 0 else (if fidx p l<0 then-1 else fidx p l+1)
theorem fidx_any{α:Type}(p:α->Bool):∀l:List α,decide (0<=fidx p l)=l.any p
 |[]=>by simp[fidx]
 | x::l=>by
  have ih:=fidx_any p l;unfold fidx;rw[List.any_cons];cases hp:p x with
  |true=>simp
  |false=>
   simp only[Bool.false_eq_true,if_false,Bool.false_or];rw[<-ih];split<;>rename_i h<;>simp<;>omega
theorem fidx_none{α:Type}(p:α->Bool):∀l:List α,(∀x∈l,p x=false)->fidx p l= -1
 |[],_=>rfl
 |x::l,h=>by
  unfold fidx;rw[h x (by simp),fidx_none p l (fun y hy=>h y (by simp[hy]))];simp
theorem fidx_hit{α:Type}(p:α->Bool):∀(l:List α) (k:Nat) (d:α),k<l.length->(∀i,i<k->p (l.getD i d)=false)->p (l.getD k d)=true->fidx p l=k
 |[],k,d,h,_,_=>by simp at h
 |x::l,0,d,_,_,h=>by
  unfold fidx;rw[List.getD_cons_zero]at h;simp[h]
 |x::l,k+1,d,hk,hn,h=>by
  have h0:=hn 0 (by omega);rw[List.getD_cons_zero]at h0;have ih:=fidx_hit p l k d (by simpa using hk) (fun i hi=>by simpa using hn (i+1) (by omega)) (by simpa using h);unfold fidx;rw[h0,ih];simp only[Bool.false_eq_true,if_false];rw[if_neg (by omega)];omega
theorem fidx_pre{α:Type}(p:α->Bool)(l:List α)(d:α)(h:∀i,i<l.length->p (l.getD i d)=false):fidx p l= -1:=
 fidx_none p l fun x hx=>by
  obtain⟨i,hi,rfl⟩:=List.getElem_of_mem hx;have:=h i hi;rwa[List.getD_eq_getElem?_getD,List.getElem?_eq_getElem hi]at this
def a2K(n:Int):Bool:= !(betw (-100) n 100)
theorem a9F(n:Int)(w:World):
  Calls Tryz.prog 248 #[.int .i64 n] w fun e w'=>e= .returned (.bool (a2K n))/\w=w':=by
 unfold a2K;go_enter Tryz.func248,Tryz.ntmps248;go_wp2_with (go_at_call 201;refine(between_any _ _ _ _).mono ?_;rintro e w' ⟨rfl,rfl⟩)
 go_ret;exact⟨rfl,rfl⟩
theorem acl(v:Value)(l:List Int)(w:World)(hv:IntsAt w v l):
  Calls Tryz.prog 254 #[v,.func (.func 248) #[] #[]] w fun e w'=>e= .returned (.int .i64 (fidx a2K l))/\w=w':=by
 obtain⟨a,cap,rfl,hl,hq⟩:=hv;go_enter Tryz.func254,Tryz.ntmps254;go_wp2;go_loop [8] (fun i=>∃k:Nat,k<=l.length/\i= .int .i64 k/\∀j,j<k->a2K (l.getD j 0)=false) (fun i=>l.length-(intOf i).toNat)
 case atStart=>exact⟨0,Nat.zero_le _,rfl,fun j hj=>by omega⟩
 case round=>
  obtain⟨k,hk,rfl,hn⟩:=hrel;by_cases hlt:k<l.length
  ·obtain⟨b,off,rfl,hc⟩:=hq (by omega);have hcell:=hc k hlt;clear hc hq;have HN:=hid hn;clear hn;generalize hx:l.getD k 0=x at hcell;have X:=hid hx;clear hx;cases hp:a2K x with
   |true=>
    have P:=hid hp;clear hp;go_wp2_with (go_at_call 248;refine(a9F _ _).mono ?_;rintro e w' ⟨rfl,rfl⟩;rw[P.out])
    go_ret;exact⟨ret_i (fidx_hit a2K l k 0 hlt HN.out (by rw[X.out];exact P.out)).symm,rfl⟩
   | false=>
    have P:=hid hp;clear hp;go_wp2_with (go_at_call 248;refine(a9F _ _).mono ?_;rintro e w' ⟨rfl,rfl⟩;rw[P.out])
    go_round
    case rel=>exact⟨k+1,by omega,by go_num,fun j hj=>by
     rcases Nat.lt_succ_iff_lt_or_eq.1 hj with h|rfl
     ·exact HN.out j h
     rw[X.out];exact P.out⟩
    case measure=>simp[intOf];omega
  have e:k=l.length:=by omega
  subst e;go_wp2;go_ret;exact⟨ret_i (fidx_pre a2K l 0 hn).symm,rfl⟩
theorem ab5(v:Value)(l:List Int)(w:World)(hv:IntsAt w v l):
  Calls Tryz.prog 247 #[v,.func (.func 248) #[] #[]] w fun e w'=>e= .returned (.bool (l.any a2K))/\w=w':=by
 have E:=hid (fidx_any a2K l);go_enter Tryz.func247,Tryz.ntmps247;go_wp2_with (go_at_call 254;refine(acl _ _ _ hv).mono ?_;rintro e w' ⟨rfl,rfl⟩)
 go_ret;exact⟨by rw[<-E.out];rfl,rfl⟩
theorem betw_iff(a b c:Int):betw a b c=true↔a<=b/\b<=c:=by simp[betw]
theorem afS(l:List Int):(!l.any a2K)=l.all fun n=>decide (-100<=n)&&decide (n<=100):=by
 rw[List.not_any_eq_all_not];congr 1;funext n;simp[a2K,betw]
theorem aiX(l:List Int):wvld l=(betw 1 l.length 12&& !l.any a2K):=by
 rw[afS];unfold wvld betw;congr 2
 ·apply decide_eq_decide.2;omega
 apply decide_eq_decide.2;omega
theorem adR(v:Value)(l:List Int)(w:World)(hv:IntsAt w v l):
  Calls Tryz.prog 230 #[v] w fun e w'=>e= .returned (.bool (wvld l))/\w=w':=by
 have E:=hid (aiX l);obtain⟨a,cap,rfl,hr⟩:=id hv;have hv':IntsAt w (.slice a l.length cap) l:=hv;clear hv;cases hb:betw 1 l.length 12 with
 |true=>
  have B:=hid hb;clear hb;go_enter Tryz.func230,Tryz.ntmps230;go_wp2_with (first|(go_at_call 201;refine(between_any _ _ _ _).mono ?_;rintro e w' ⟨rfl,rfl⟩;rw[B.out])|(go_at_call 247;refine(ab5 _ _ _ hv').mono ?_;rintro e w' ⟨rfl,rfl⟩))
  go_ret;exact⟨by rw[E.out,B.out];rfl,rfl⟩
 |false=>
  have B:=hid hb;clear hb;go_enter Tryz.func230,Tryz.ntmps230;go_wp2_with (first|(go_at_call 201;refine(between_any _ _ _ _).mono ?_;rintro e w' ⟨rfl,rfl⟩;rw[B.out]))
  go_ret;exact⟨by rw[E.out,B.out];rfl,rfl⟩
def a2n(l:List Int):Bool:= !wvld l
theorem a8b(v:Value)(l:List Int)(w:World)(hv:IntsAt w v l):
  Calls Tryz.prog 229 #[v] w fun e w'=>e= .returned (.bool (a2n l))/\w=w':=by
 unfold a2n;go_enter Tryz.func229,Tryz.ntmps229;go_wp2_with (go_at_call 230;refine(adR _ _ _ hv).mono ?_;rintro e w' ⟨rfl,rfl⟩)
 go_ret;exact⟨rfl,rfl⟩
theorem acm(v:Value)(t:List (List Int))(w:World)(hv:RowsAt w v t):
  Calls Tryz.prog 246 #[v,.func (.func 229) #[] #[]] w fun e w'=>e= .returned (.int .i64 (fidx a2n t))/\w=w':=by
 obtain⟨a,cap,rfl,hl,hq⟩:=hv;go_enter Tryz.func246,Tryz.ntmps246;go_wp2;go_loop [8] (fun i=>∃k:Nat,k<=t.length/\i= .int .i64 k/\∀j,j<k->a2n (t.getD j [])=false) (fun i=>t.length-(intOf i).toNat)
 case atStart=>exact⟨0,Nat.zero_le _,rfl,fun j hj=>by omega⟩
 case round=>
  obtain⟨k,hk,rfl,hn⟩:=hrel;by_cases hlt:k<t.length
  ·obtain⟨b,off,rfl,hc⟩:=hq (by omega);obtain⟨x,hcell,hi⟩:=hc k hlt;clear hc hq;have HN:=hid hn;clear hn;generalize hx:t.getD k []=lk at hi;have X:=hid hx;clear hx;cases hp:a2n lk with
   |true=>
    have P:=hid hp;clear hp;go_wp2_with (go_at_call 229;refine(a8b _ _ _ hi).mono ?_;rintro e w' ⟨rfl,rfl⟩;rw[P.out])
    go_ret;exact⟨ret_i (fidx_hit a2n t k [] hlt HN.out (by rw[X.out];exact P.out)).symm,rfl⟩
   | false=>
    have P:=hid hp;clear hp;go_wp2_with (go_at_call 229;refine(a8b _ _ _ hi).mono ?_;rintro e w' ⟨rfl,rfl⟩;rw[P.out])
    go_round
    case rel=>exact⟨k+1,by omega,by go_num,fun j hj=>by
     rcases Nat.lt_succ_iff_lt_or_eq.1 hj with h|rfl
     ·exact HN.out j h
     rw[X.out];exact P.out⟩
    case measure=>simp[intOf];omega
  have e:k=t.length:=by omega
  subst e;go_wp2;go_ret;exact⟨ret_i (fidx_pre a2n t [] hn).symm,rfl⟩
theorem ab6(v:Value)(t:List (List Int))(w:World)(hv:RowsAt w v t):
  Calls Tryz.prog 228 #[v,.func (.func 229) #[] #[]] w fun e w'=>e= .returned (.bool (t.any a2n))/\w=w':=by
 have E:=hid (fidx_any a2n t);go_enter Tryz.func228,Tryz.ntmps228;go_wp2_with (go_at_call 246;refine(acm _ _ _ hv).mono ?_;rintro e w' ⟨rfl,rfl⟩)
 go_ret;exact⟨by rw[<-E.out];rfl,rfl⟩
theorem vld_eq(t:List (List Int)):vld t=(betw 1 t.length 4&& !t.any a2n):=by
 unfold vld betw;congr 2
 ·apply decide_eq_decide.2;omega
 ·apply decide_eq_decide.2;omega
 rw[List.not_any_eq_all_not];congr 1;funext l;simp[a2n]
theorem valid_any(v:Value)(t:List (List Int))(w:World)(hv:RowsAt w v t):
  Calls Tryz.prog 194 #[v] w fun e w'=>e= .returned (.bool (vld t))/\w=w':=by
 have E:=hid (vld_eq t);obtain⟨a,cap,rfl,hr⟩:=id hv;have hv':RowsAt w (.slice a t.length cap) t:=hv;clear hv;cases hb:betw 1 t.length 4 with
 |true=>
  have B:=hid hb;clear hb;go_enter Tryz.func194,Tryz.ntmps194;go_wp2_with (first|(go_at_call 201;refine(between_any _ _ _ _).mono ?_;rintro e w' ⟨rfl,rfl⟩;rw[B.out])|(go_at_call 228;refine(ab6 _ _ _ hv').mono ?_;rintro e w' ⟨rfl,rfl⟩))
  go_ret;exact⟨by rw[E.out,B.out];rfl,rfl⟩
 |false=>
  have B:=hid hb;clear hb;go_enter Tryz.func194,Tryz.ntmps194;go_wp2_with (first|(go_at_call 201;refine(between_any _ _ _ _).mono ?_;rintro e w' ⟨rfl,rfl⟩;rw[B.out]))
  go_ret;exact⟨by rw[E.out,B.out];rfl,rfl⟩
theorem Tryz.info64:(Tryz.prog.info? 284).map (fun i=>(i.zero,i.size,i.bytes))=some (some (.slice none 0 0),1,24):=by kernel_rfl
def NewT(t:List (List Int))(w:World)(e:Ending)(w':World):Prop:=
 ∃tv,e= .returned (.tuple #[tv,.int .i64 0])/\RowsAt w' tv t/\Below w.heap.size w w'
theorem adS(v:Value)(t:List (List Int))(w:World)(hv:RowsAt w v t)(hno:vld t=false):
  Calls Tryz.prog 231 #[v] w fun e w'=>e= .returned (.tuple #[.slice none 0 0,.int .i64 10])/\w=w':=by
 have N:=hid hno;clear hno;go_enter Tryz.func231,Tryz.ntmps231;go_wp2_with (go_at_call 194;refine(valid_any _ _ _ hv).mono ?_;rintro e w' ⟨rfl,rfl⟩;rw[N.out])
 go_ret2;exact⟨rfl,rfl⟩
theorem a71(v:Value)(t:List (List Int))(w:World)(hv:RowsAt w v t)(hyes:vld t=true):
  Calls Tryz.prog 231 #[v] w (NewT t w):=by
 have T:=(vld_iff t).1 hyes
 have hlo:=T.lo;have hhi:=T.hi;obtain⟨i0,hi0,hz0,hz1,hz2⟩:=info_parts Tryz.info64;have N:=hid hyes;clear hyes T;obtain⟨a,cap,rfl,hl,hq⟩:=id hv;obtain⟨b,off,rfl,hc⟩:=hq (by omega);clear hq;go_enter Tryz.func231,Tryz.ntmps231;go_wp2_with (go_at_call 194;refine(valid_any _ _ _ hv).mono ?_;rintro e w' ⟨rfl,rfl⟩;rw[N.out])
 clear hv
 go_loopw [4,12] (fun o i wr=>∃(k:Nat) (xs:List Value),k<=t.length/\i= .int .i64 k/\xs.length=k/\wr.ownsRow w.heap.size 284 1 o k xs/\(∀j,j<k->IntsAt w (xs.getD j undef) (t.getD j []))/\Below w.heap.size w wr)
  (fun _ i _=>t.length-(intOf i).toNat)
 case atStart=>exact⟨0,[],Nat.zero_le _,rfl,rfl,World.ownsRow_nil _ _ _ _,fun j hj=>by omega,Below.refl _ _⟩
 case round=>
  obtain⟨k,xs,hk,rfl,hxs,hown,hall,hbel⟩:=hrel;have hsz:=hbel.size;by_cases hlt:k<t.length
  ·obtain⟨x,hx0,hi⟩:=hc k hlt;generalize hlk:t.getD k []=lk at hi;have LK:=hid hlk;clear hlk;obtain⟨xa,xc,rfl,hxr⟩:=id hi;clear hxr;have hx:=keep_cell hbel hx0;have XL:=hid hxs;have HA:=hid hall;clear hc hx0 hxs hall;go_wp2_with (at_builtin;refine wpList_append_own _ rfl _ _ 251 rfl w.heap.size 284 i0 (.slice none 0 0) 1 24 Tryz.underlying251 hi0 hz0 hz1 hz2 rfl (by decide) _ _ _ rfl (hown.alloc _) ⟨wr.heap.size,0,none⟩ 1 1 [.slice xa lk.length xc] rfl rfl ?c1 ?c2 ?c3 ?c4 ?c5 ?_)
   case c1=>exact(a07 _ _ _)
   case c2=>intro u hu;simp at hu;subst hu;rfl
   case c3=>unfold maxLen;omega
   case c4=>omega
   case c5=>simp;omega
   intro v' w1 hown' hgrow _;have R:=below_append hbel hsz hown hgrow;clear hown hgrow hbel;go_wp2;go_roundw
   case rel=>exact⟨k+1,xs++[.slice xa lk.length xc],by omega,by go_num,by simp[XL.out],hown',fun j hj=>by
    rcases Nat.lt_succ_iff_lt_or_eq.1 hj with h|rfl
    ·rw[a1A _ _ _ (by rw[XL.out];exact h)];exact HA.out j h
    have e:=a1B xs (.slice xa lk.length xc) undef;rw[XL.out]at e;rw[e,LK.out];exact hi,R⟩
   case measure=>simp[intOf];omega
  have e:k=t.length:=by omega
  subst e;have XL:=hid hxs;have HA:=hid hall;clear hxs hall;go_wp2;go_ret2;exact⟨_,rfl,ab1 hown hl (fun i h=>(HA.out i h).below hbel),hbel⟩
def qe(t:List (List Int))(right:Bool):Int:=if vld t then (if right then 0 else 2)else 10
def qi(t:List (List Int))(right:Bool)(x:Int):Int:=if vld t&&right then x else 0
theorem adT{t:List (List Int)}(h:vld t=false)(r:Bool):qe t r=10:=by simp[qe,h]
theorem a8c{t:List (List Int)}(h:vld t=true):qe t false=2:=by simp[qe,h]
theorem ab7{t:List (List Int)}(h:vld t=true):qe t true=0:=by simp[qe,h]
theorem adU{t:List (List Int)}(h:vld t=false)(r:Bool)(x:Int):qi t r x=0:=by simp[qi,h]
theorem a8d{t:List (List Int)}(x:Int):qi t false x=0:=by simp[qi]
theorem ab8{t:List (List Int)}(h:vld t=true)(x:Int):qi t true x=x:=by simp[qi,h]
theorem a6g(v:Value)(t:List (List Int))(right:Bool)(g:Nat)(lb:Array Value)(x:Int)(w:World)(hv:RowsAt w v t)
  (eg:∀args w,(callFunc g args).run Tryz.prog w= .ok (.enter g args) w)
  (hg:vld t=true->right=true->∀W tv,RowsAt W tv t->Below w.heap.size w W->Calls Tryz.prog g (#[tv]++lb) W fun e W'=>e= .returned (.int .i64 x)/\Below W.heap.size W W'):
  Calls Tryz.prog 196 #[v,.bool right,.func (.func g) #[] lb] w fun e w'=>e= .returned (.tuple #[.int .i64 (qi t right x),.int .i64 (qe t right)])/\Below w.heap.size w w':=by
 cases hy:vld t with
 |false=>
  rw[adU hy,adT hy];clear hg;go_enter Tryz.func196,Tryz.ntmps196;go_wp2_with (go_at_call 231;refine(adS _ _ _ hv hy).mono ?_;rintro e w' ⟨rfl,rfl⟩)
  go_ret2;exact⟨rfl,Below.refl _ _⟩
 | true=>
  cases right with
  |false=>
   rw[a8d,a8c hy];clear hg;go_enter Tryz.func196,Tryz.ntmps196;go_wp2_with (go_at_call 231;refine(a71 _ _ _ hv hy).mono ?_;rintro e w' ⟨tv,rfl,hr,hb⟩)
   go_ret2;exact⟨rfl,hb⟩
  |true=>
   rw[ab8 hy,ab7 hy];have hg':=hg hy rfl;have HG:=hid hg';clear hg hg';go_enter Tryz.func196,Tryz.ntmps196;go_wp2_with (first|(go_at_call 231;refine(a71 _ _ _ hv hy).mono ?_;rintro e w1 ⟨tv,rfl,hr,hb⟩)|(go_at_fn g;refine(HG.out _ _ hr hb).mono ?_;rintro e w2 ⟨rfl,hb2⟩))
   go_ret2;exact⟨rfl,below_trans hb hb2⟩
theorem afT{a b:Nat}(ha2:a<=27720)(hb2:b<=12):a / Nat.gcd a b * b=Nat.lcm a b/\a / Nat.gcd a b * b<=332640:=by
 have h1:a / Nat.gcd a b * b=Nat.lcm a b:=by
  rw[Nat.lcm,Nat.mul_comm a b,Nat.mul_div_assoc _ (Nat.gcd_dvd_left a b),Nat.mul_comm]
 refine⟨h1,?_⟩;have h2:a / Nat.gcd a b<=27720:=Nat.le_trans (Nat.div_le_self _ _) ha2;exact Nat.le_trans (Nat.mul_le_mul h2 hb2) (by decide)
theorem gcd_step(x y:Nat):Nat.gcd y (x % y)=Nat.gcd x y:=by
 rw[Nat.gcd_comm x y,Nat.gcd_rec y x,Nat.gcd_comm]
theorem emod_cast(p q:Nat):((p:Int) % (q:Int))=((p % q:Nat):Int):=(Int.natCast_emod p q).symm
theorem afU(p q:Nat):((p:Int) / (q:Int))=((p / q:Nat):Int):=(Int.natCast_ediv p q).symm
theorem adV(a b:Nat)(w:World)(ha:1<=a)(hb:1<=b)(ha2:a<=27720)(hb2:b<=12):
  Calls Tryz.prog 249 #[.int .i64 a,.int .i64 b] w fun e w'=>e= .returned (.int .i64 (Nat.lcm a b:Nat))/\Below w.heap.size w w':=by
 have L:=afT ha2 hb2;have L1:=hid L.1;have L2:=hid L.2;clear L;go_enter Tryz.func249,Tryz.ntmps249;go_wp2;go_loopw [5,6] (fun x y wr=>∃p q:Nat,x= .int .i64 p/\y= .int .i64 q/\1<=p/\p<=27720/\q<=27720/\Hid (Nat.gcd p q=Nat.gcd a b)/\Below w.heap.size w wr) (fun _ y _=>(intOf y).toNat)
 case atStart=>exact⟨a,b,rfl,rfl,ha,ha2,by omega,rfl,Below.refl _ _⟩
 case round=>
  obtain⟨p,q,rfl,rfl,hp,hp2,hq2,G,hbel⟩:=hrel;by_cases hq:0<q
  ·have hm:=Nat.mod_lt p hq;go_wp2;go_region
   all_goals go_wp2
   all_goals go_roundw
   case rel=>exact⟨q,p % q,rfl,by rw[emod_cast],by omega,by omega,by omega,(gcd_step p q).trans G.out,hbel.drew⟩
   case measure=>rw[emod_cast];simp only[intOf];omega
  have e:q=0:=by omega
  subst e;have G':=G.out;rw[Nat.gcd_zero_right]at G';clear G;have GH:=hid G';clear G';go_wp2;go_ret;refine⟨ret_i ?_,hbel⟩;have h2:=L2.out;have h3:=Nat.div_le_self a (a.gcd b)
  have h4:(-9223372036854775808:Int)<=((a / a.gcd b:Nat):Int)/\((a / a.gcd b:Nat):Int)<=9223372036854775807:=by
   generalize a / a.gcd b=z at *;omega
  rw[GH.out,afU,IntWalk.wrap64_in ((a / a.gcd b:Nat):Int) h4,<-Int.natCast_mul,L1.out];apply IntWalk.wrap64_in;rw[L1.out]at h2;omega
def a38(t:List (List Int))(k:Nat):Nat:=rnd (t.take k)
theorem a8e(t:List (List Int))(k:Nat)(hk:k<t.length):a38 t (k+1)=Nat.lcm (a38 t k) (t.getD k []).length:=by
 unfold a38 rnd;rw[List.take_succ_eq_append_getElem hk,List.foldl_append,List.getD_eq_getElem?_getD,List.getElem?_eq_getElem hk];rfl
theorem a7t{t:List (List Int)}(h:Vld t)(k:Nat):1<=a38 t k/\a38 t k<=27720:=by
 have hm:∀l∈t.take k,1<=l.length/\l.length<=12:=fun l hl=>⟨(h.wave l (List.mem_of_mem_take hl)).1,(h.wave l (List.mem_of_mem_take hl)).2.1⟩
 exact⟨a4e _ 1 (by omega) (fun l hl=>(hm l hl).1),Nat.le_of_dvd (by omega) (a3j _ 1 27720 (Nat.one_dvd _) (fun l hl=>ab2 (hm l hl).1 (hm l hl).2))⟩
theorem a9G(t:List (List Int)):a38 t t.length=rnd t:=by unfold a38;rw[List.take_length]
theorem a6h(v:Value)(t:List (List Int))(w:World)(hv:RowsAt w v t)(ht:Vld t):
  Calls Tryz.prog 232 #[v] w fun e w'=>e= .returned (.int .i64 (rnd t:Nat))/\Below w.heap.size w w':=by
 obtain⟨a,cap,rfl,hl,hq⟩:=id hv;have hlo:=ht.lo;have hhi:=ht.hi;obtain⟨b,off,rfl,hc⟩:=hq (by omega);clear hq hv;go_enter Tryz.func232,Tryz.ntmps232;go_wp2;go_loopw [3,8] (fun s i wr=>∃k:Nat,k<=t.length/\i= .int .i64 k/\s= .int .i64 (a38 t k:Nat)/\Below w.heap.size w wr) (fun _ i _=>t.length-(intOf i).toNat)
 case atStart=>exact⟨0,Nat.zero_le _,rfl,rfl,Below.refl _ _⟩
 case round=>
  obtain⟨k,hk,rfl,rfl,hbel⟩:=hrel;have hbd:=a7t ht k;by_cases hlt:k<t.length
  ·obtain⟨x,hx0,hi⟩:=hc k hlt;have hw:=ht.wave _ (a2m hlt);have hw1:=hw.1;have hw2:=hw.2.1;have E:=hid (a8e t k hlt);have hx:=keep_cell hbel hx0;generalize t.getD k []=lk at *;generalize a38 t k=r at *;obtain⟨xa,xc,rfl,hxr⟩:=id hi;clear hxr hi hw hx0 hc;go_wp2_with (go_at_call 249;refine(adV _ _ _ hbd.1 hw1 hbd.2 hw2).mono ?_;rintro e w1 ⟨rfl,hb1⟩)
   go_roundw
   case rel=>exact⟨k+1,by omega,by go_num,by rw[E.out],hbel.trans (hb1.mono hbel.size)⟩
   case measure=>simp[intOf];omega
  have e:k=t.length:=by omega
  subst e;go_wp2;go_ret;exact⟨ret_i (by rw[a9G]),hbel⟩
theorem a3k{t:List (List Int)}(h:Vld t)(a:Int)(n:Nat): -(400 * (n:Int))<=acc (spd t) a n/\acc (spd t) a n<=400 * n:=acc_bound _ 400 h.bd a n
theorem ab9(v:Value)(t:List (List Int))(a:Int)(n:Nat)(w:World)(hv:RowsAt w v t)(ht:Vld t)(ha1: -10000000<=a)(ha2:a<=10000000)(hn:n<=10000000):
  Calls Tryz.prog 237 #[v,.int .i64 a,.int .i64 n] w fun e w'=>e= .returned (.int .i64 (acc (spd t) a n))/\w=w':=by
 go_enter Tryz.func237,Tryz.ntmps237;go_wp2;go_loop [7,10] (fun s i=>∃k:Nat,k<=n/\i= .int .i64 k/\s= .int .i64 (acc (spd t) a k)) (fun _ i=>n-(intOf i).toNat)
 case atStart=>exact⟨0,Nat.zero_le _,rfl,rfl⟩
 case round=>
  obtain⟨k,hk,rfl,rfl⟩:=hrel;by_cases hlt:k<n
  ·have b1:=a3k ht a k;have b2:=ht.bd (a+k);have E:=hid (show acc (spd t) a (k+1)=acc (spd t) a k+spd t (a+k)from rfl);generalize acc (spd t) a k=s at *;go_wp2_with (go_at_call 250;refine(a3H _ _ _ _ hv ht).mono ?_;rintro e w' ⟨rfl,rfl⟩)
   go_round
   case rel=>exact⟨k+1,by omega,by go_num,by rw[E.out]⟩
   case measure=>simp[intOf];omega
  have e:k=n:=by omega
  subst e;go_wp2;go_ret;exact⟨rfl,rfl⟩
theorem a4K{t:List (List Int)}(a:Int)(n:Nat):((n / rnd t:Nat):Int) * acc (spd t) 0 (rnd t)+acc (spd t) a (n % rnd t)=acc (spd t) a n:=
 afR (acZ t) a n
theorem a8f{t:List (List Int)}(h:Vld t)(n:Nat): -(400 * (n:Int))<=((n / rnd t:Nat):Int) * acc (spd t) 0 (rnd t)/\((n / rnd t:Nat):Int) * acc (spd t) 0 (rnd t)<=400 * n:=by
 have h1:=a4K (t:=t) 0 (n-n % rnd t);have h2:=a3k h 0 (n-n % rnd t);have hr:=h.rnd_pos
 have h3:(n-n % rnd t) / rnd t=n / rnd t:=by
  have:=Nat.div_add_mod n (rnd t);have e:n-n % rnd t=rnd t * (n / rnd t):=by omega
  rw[e,Nat.mul_div_cancel_left _ hr]
 have h4:(n-n % rnd t) % rnd t=0:=by
  have:=Nat.div_add_mod n (rnd t);have e:n-n % rnd t=rnd t * (n / rnd t):=by omega
  rw[e,Nat.mul_mod_right]
 rw[h3,h4]at h1;simp only[acc,Int.add_zero]at h1;rw[h1];omega
theorem afV(v:Value)(t:List (List Int))(a:Int)(n:Nat)(w:World)(hv:RowsAt w v t)(ht:Vld t)(ha1: -2000000<=a)(ha2:a<=2000000)(hn:n<=2000000):
  Calls Tryz.prog 203 #[v,.int .i64 a,.int .i64 n] w fun e w'=>e= .returned (.int .i64 (acc (spd t) a n))/\Below w.heap.size w w':=by
 have P:=a8f ht n;have E:=hid (a4K (t:=t) a n);have hr:=ht.rnd_pos;have hr2:=ht.rnd_le;have hm:=Nat.mod_lt n hr;have hd:=Nat.div_le_self n (rnd t);have b2:=a3k ht a (n % rnd t);go_enter Tryz.func203,Tryz.ntmps203;go_wp2_with (go_at_call 232;refine(a6h _ _ _ hv ht).mono ?_;rintro e w1 ⟨rfl,hb1⟩)
 have hv1:=hv.below hb1;have S1:=fun nq=>Calls.quiet_of_same (n:=nq) ((ab9 v t 0 (rnd t) _ (hv1.drewN nq) ht (by omega) (by omega) (by omega)).mono fun _ _ h=>⟨h.1,h.2.symm⟩);have S2:=fun nq=>Calls.quiet_of_same (n:=nq) ((ab9 v t a (n % rnd t) _ (hv1.drewN nq) ht (by omega) (by omega) (by omega)).mono fun _ _ h=>⟨h.1,h.2.symm⟩);rw[Int.natCast_emod]at S2;have H1:=hid S1;have H2:=hid S2;have E':=E.out;rw[Int.natCast_ediv]at E' P;have E2:=hid E';have hdv:=IntWalk.tdiv_le n (rnd t) (by omega) (by omega);have hne:((rnd t:Int)==0)=false:=by simp;omega
 clear S1 S2 hv hv1 E E' hd hm;generalize acc (spd t) 0 (rnd t)=A0 at *;generalize acc (spd t) a (n % rnd t)=A1 at *;refine wp_region_quiet_lit (by kernel_rfl) (by kernel_rfl) ?_;repeat (any_goals (first|go_big_quiet_step ((go_at_call 237;first|(with_reducible exact H1.out _)|(with_reducible exact H2.out _)))|quiet_step (fail)))
 all_goals (refine wpQuiet_nil ?_;intro _ hw';obtain⟨nq,hw''⟩:=hw';subst hw'')
 all_goals go_wp2
 go_ret;exact⟨ret_i (by rw[E2.out];have:=a3k ht a n;exact IntWalk.wrap64_in _ (by omega)),belowN0 hb1 _⟩
theorem ahC{f:Int->Int}{r b k:Nat}(hk:k<r)(h:¬f k=f ((k:Int)+b)):repB f r b=false:=by
 unfold repB;rw[List.all_eq_false];exact⟨k,List.mem_range.2 hk,by simpa using h⟩
theorem ahD{f:Int->Int}{r b:Nat}(h:∀k:Nat,k<r->f k=f ((k:Int)+b)):repB f r b=true:=by
 unfold repB;rw[List.all_eq_true];exact fun k hk=>by simpa using h k (List.mem_range.1 hk)
theorem a73(v:Value)(t:List (List Int))(b:Nat)(w:World)(hv:RowsAt w v t)(ht:Vld t)(hb:b<=100000):
  Calls Tryz.prog 233 #[v,.int .i64 b] w fun e w'=>e= .returned (.bool (repB (spd t) (rnd t) b))/\Below w.heap.size w w':=by
 have hr:=ht.rnd_pos;have hr2:=ht.rnd_le;go_enter Tryz.func233,Tryz.ntmps233;go_wp2_with (go_at_call 232;refine(a6h _ _ _ hv ht).mono ?_;rintro e w1 ⟨rfl,hb1⟩)
 have hv1:=hv.below hb1;clear hv;go_loop [8] (fun i=>∃k:Nat,k<=rnd t/\i= .int .i64 k/\Hid (∀j:Nat,j<k->spd t j=spd t ((j:Int)+b))) (fun i=>rnd t-(intOf i).toNat)
 case atStart=>exact⟨0,Nat.zero_le _,rfl,fun j hj=>by omega⟩
 case round=>
  obtain⟨k,hk,rfl,H⟩:=hrel;by_cases hlt:k<rnd t
  ·by_cases he:spd t k=spd t ((k:Int)+b)
   ·have E:=hid he;have hd:(spd t k != spd t ((k:Int)+b))=false:=by simpa using he
    clear he;go_wp2_with (first|(go_at_call_of 250 (Value.int .i64 (k:Int));refine(a3H _ _ _ _ hv1 ht).mono ?_;rintro e w' ⟨rfl,rfl⟩)|(go_at_call_of 250 (Value.int .i64 ((k:Int)+b));refine(a3H _ _ _ _ hv1 ht).mono ?_;rintro e w' ⟨rfl,rfl⟩))
    go_round
    case rel=>exact⟨k+1,by omega,by go_num,fun j hj=>by
     rcases Nat.lt_succ_iff_lt_or_eq.1 hj with h|rfl
     ·exact H.out j h
     exact E.out⟩
    case measure=>simp[intOf];omega
   have E:=hid (ahC hlt he);have hd:(spd t k != spd t ((k:Int)+b))=true:=by simpa using he
   clear he;go_wp2_with (first|(go_at_call_of 250 (Value.int .i64 (k:Int));refine(a3H _ _ _ _ hv1 ht).mono ?_;rintro e w' ⟨rfl,rfl⟩)|(go_at_call_of 250 (Value.int .i64 ((k:Int)+b));refine(a3H _ _ _ _ hv1 ht).mono ?_;rintro e w' ⟨rfl,rfl⟩))
   go_ret;exact⟨by rw[E.out];rfl,hb1⟩
  have e:k=rnd t:=by omega
  have H2:=hid (ahD (b:=b) (f:=spd t) (r:=rnd t) (fun j hj=>H.out j (by omega)));subst e;go_wp2;go_ret;exact⟨by rw[H2.out];rfl,hb1⟩
theorem a8g{f:Int->Int}{r:Nat}(b:Nat):btFrom f r (r-r) b=r:=by rw[Nat.sub_self];rfl
theorem a8h{f:Int->Int}{r b:Nat}(hb:b<r)(h:r % b=0/\repB f r b=true):btFrom f r (r-b) b=b:=by
 rw[show r-b=(r-(b+1))+1 from by omega];unfold btFrom;rw[if_pos h]
theorem a3z{f:Int->Int}{r b:Nat}(hb:b<r)(h:¬(r % b=0/\repB f r b=true)):btFrom f r (r-b) b=btFrom f r (r-(b+1)) (b+1):=by
 rw[show r-b=(r-(b+1))+1 from by omega];conv=>lhs;unfold btFrom
 rw[if_neg h]
theorem ahE(v:Value)(t:List (List Int))(w:World)(hv:RowsAt w v t)(ht:Vld t):
  Calls Tryz.prog 197 #[v] w fun e w'=>e= .returned (.int .i64 (bt (spd t) (rnd t):Nat))/\Below w.heap.size w w':=by
 have hr:=ht.rnd_pos;have hr2:=ht.rnd_le;go_enter Tryz.func197,Tryz.ntmps197;go_wp2_with (go_at_call 232;refine(a6h _ _ _ hv ht).mono ?_;rintro e w1 ⟨rfl,hb1⟩)
 go_loopw [4] (fun i wr=>∃b:Nat,1<=b/\b<=rnd t/\i= .int .i64 b/\Hid (btFrom (spd t) (rnd t) (rnd t-b) b=bt (spd t) (rnd t))/\Below w.heap.size w wr) (fun i _=>rnd t-(intOf i).toNat)
 case atStart=>exact⟨1,Nat.le_refl _,hr,rfl,rfl,hb1⟩
 case round=>
  obtain⟨b,hb0,hb,rfl,H,hbel⟩:=hrel;clear hb1;by_cases hlt:b<rnd t
  ·have hvr:=hv.below hbel;clear hv;by_cases hd:rnd t % b=0
   ·have hD:((rnd t:Int) % (b:Int)==0)=true:=by rw[beq_iff_eq,<-Int.natCast_emod,hd];rfl
    cases hp:repB (spd t) (rnd t) b with
    |true=>
     have E:=hid (a8h hlt ⟨hd,hp⟩);have P:=hid hp;clear hp hd;go_wp2_with (go_at_call 233;refine(a73 _ _ _ _ hvr ht (by omega)).mono ?_;rintro e w2 ⟨rfl,hb2⟩;rw[P.out])
     go_ret;exact⟨ret_i (by rw[<-H.out,E.out]),hbel.trans (hb2.mono hbel.size)⟩
    |false=>
     have E:=hid (a3z (f:=spd t) hlt (fun h=>by rw[hp]at h;exact absurd h.2 (by simp)));have P:=hid hp;clear hp hd;go_wp2_with (go_at_call 233;refine(a73 _ _ _ _ hvr ht (by omega)).mono ?_;rintro e w2 ⟨rfl,hb2⟩;rw[P.out])
     go_roundw
     case rel=>exact⟨b+1,by omega,by omega,by go_num,by rw[<-E.out];exact H.out,hbel.trans (hb2.mono hbel.size)⟩
     case measure=>simp[intOf];omega
   have hD:((rnd t:Int) % (b:Int)==0)=false:=by rw[beq_eq_false_iff_ne,<-Int.natCast_emod];omega
   have E:=hid (a3z (f:=spd t) hlt (fun h=>hd h.1));clear hd;go_wp2;go_roundw
   case rel=>exact⟨b+1,by omega,by omega,by go_num,by rw[<-E.out];exact H.out,hbel⟩
   case measure=>simp[intOf];omega
  have e:b=rnd t:=by omega
  have H':=H.out;rw[e,a8g]at H';have HH:=hid H';clear H' H;go_wp2;go_ret;exact⟨ret_i (by rw[<-HH.out]),hbel⟩
end Go.Proofs.YtdfkaijeppdhaaaGreatDoor.Td
