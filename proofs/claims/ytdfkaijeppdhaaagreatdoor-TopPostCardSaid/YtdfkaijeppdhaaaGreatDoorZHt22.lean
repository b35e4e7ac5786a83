/- Part of the proof. -/
import Derived.Test.YtdfkaijeppdhaaaGreatDoorZHt21
set_option maxRecDepth 100000
set_option maxHeartbeats 8000000
set_option linter.unusedSimpArgs false
set_option linter.unusedVariables false

namespace Go.Proofs.YtdfkaijeppdhaaaGreatDoor.Td
open Go.RowKit
open Lib (hid)
def betw(a b c:Int):Bool:=decide (a<=b)&&decide (b<=c)
theorem between_any(a b c:Int)(w:World):
  Calls Tryz.prog 201 #[.int .i64 a,.int .i64 b,.int .i64 c] w fun e w'=>e= .returned (.bool (betw a b c))/\w=w':=by
 unfold betw;by_cases h1:a<=b
 ·by_cases h2:b<=c
  ·go_enter Tryz.func201,Tryz.ntmps201;go_wp2;go_ret;exact⟨by simp[h1,h2],rfl⟩
  go_enter Tryz.func201,Tryz.ntmps201;go_wp2;go_ret;exact⟨by simp[h2],rfl⟩
 go_enter Tryz.func201,Tryz.ntmps201;go_wp2;go_ret;exact⟨by rw[decide_eq_false (show¬a<=b by omega)];rfl,rfl⟩
theorem a5q(h:Int)(n:Nat)(h0:0<n): -(n:Int)<h.tmod n/\h.tmod n<n:=by
 have h1:=Int.tmod_lt_of_pos h (show (0:Int)<n by omega);have h2:=Int.tmod_lt_of_pos (-h) (show (0:Int)<n by omega);rw[Int.neg_tmod]at h2;omega
theorem acg(h:Int)(n:Nat)(h0:0<n)(hn:h.tmod n<0):h % n=h.tmod n+n:=by
 have h1:=a5q h n h0;have h2:=Int.mul_tdiv_add_tmod h n
 have e:h=(h.tmod n+n)+n * (h.tdiv n+ -1):=by
  rw[Int.mul_add];generalize (n:Int) * h.tdiv n=x at *;omega
 conv=>lhs;rw[e]
 rw[Int.add_mul_emod_self_left];exact Int.emod_eq_of_lt (by omega) (by omega)
theorem aaD(h:Int)(n:Nat)(h0:0<n)(hn:0<=h.tmod n):h % n=h.tmod n:=by
 have h1:=a5q h n h0;have h2:=Int.mul_tdiv_add_tmod h n;have e:h=h.tmod n+n * h.tdiv n:=by omega
 conv=>lhs;rw[e]
 rw[Int.add_mul_emod_self_left];exact Int.emod_eq_of_lt (by omega) (by omega)
theorem ret_b{a b:Bool}(h:a=b):Ending.returned (.bool a)= .returned (.bool b):=by rw[h]
theorem ret_i{a b:Int}(h:a=b):Ending.returned (.int .i64 a)= .returned (.int .i64 b):=by rw[h]
theorem ap7(v:Value)(l:List Int)(h:Int)(w:World)(hv:IntsAt w v l)(h0:0<l.length):
  Calls Tryz.prog 255 #[v,.int .i64 h] w fun e w'=>e= .returned (.int .i64 (wat l h))/\w=w':=by
 obtain⟨a,cap,rfl,hl,hq⟩:=hv;obtain⟨b,off,rfl,hc⟩:=hq h0;clear hq;have ⟨hb1,hb2⟩:=a5q h l.length h0;by_cases hn:h.tmod l.length<0
 ·have E:=hid (acg h l.length h0 hn);have hcell:=hc (h.tmod l.length+l.length).toNat (by omega)
  clear hc;generalize hx:l.getD _ 0=x at hcell;have X:=hid hx;clear hx;go_enter Tryz.func255,Tryz.ntmps255;go_wp2;go_ret;exact⟨ret_i (by unfold wat;rw[E.out];exact X.out.symm),rfl⟩
 have E:=hid (aaD h l.length h0 (by omega));have hcell:=hc (h.tmod l.length).toNat (by omega)
 clear hc;generalize hx:l.getD _ 0=x at hcell;have X:=hid hx;clear hx;go_enter Tryz.func255,Tryz.ntmps255;go_wp2;go_ret;exact⟨ret_i (by unfold wat;rw[E.out];exact X.out.symm),rfl⟩
theorem ach(t:List (List Int))(k:Nat)(h:Int)(hk:k<t.length):spd (t.take (k+1)) h=spd (t.take k) h+wat (t.getD k []) h:=by
 rw[alC hk,afb,a5Z,akV,abs,alz hk];simp
theorem a2I{t:List (List Int)}{k:Nat}(hk:k<t.length):t.getD k []∈t:=by
 rw[abs,alz hk];simp
theorem a43(v:Value)(t:List (List Int))(h:Int)(w:World)(hv:RowsAt w v t)(ht:Vld t):
  Calls Tryz.prog 250 #[v,.int .i64 h] w fun e w'=>e= .returned (.int .i64 (spd t h))/\w=w':=by
 obtain⟨a,cap,rfl,hl,hq⟩:=hv;have hlo:=ht.lo;have hhi:=ht.hi;obtain⟨b,off,rfl,hc⟩:=hq (by omega);clear hq;go_enter Tryz.func250,Tryz.ntmps250;go_wp2;go_loop [5,10] (fun s i=>∃k:Nat,k<=t.length/\i= .int .i64 k/\s= .int .i64 (spd (t.take k) h)) (fun _ i=>t.length-(intOf i).toNat)
 case atStart=>exact⟨0,alE _,rfl,rfl⟩
 case round=>
  obtain⟨k,hk,rfl,rfl⟩:=hrel;by_cases hlt:k<t.length
  ·obtain⟨x,hx,hi⟩:=hc k hlt;have hw:=ht.wave _ (a2I hlt);have E:=hid (ach t k h hlt);have b1:=a4V (t.take k) (fun l hl=>(ht.wave l (amb hl)).2.2) h;have b2:=a6V hw.2.2 h;have hlen:(t.take k).length<=k:=List.length_take_le _ _
   have hw1:=hw.1;have ht4:t.length<=4:=hhi;generalize t.getD k []=lk at *;generalize spd (t.take k) h=s at *;clear hc hw;go_wp2_with (go_at_call 255;refine(ap7 _ _ _ _ hi hw1).mono ?_;rintro e w' ⟨rfl,rfl⟩)
   go_round
   case rel=>exact⟨k+1,by omega,by go_num,by rw[E.out]⟩
   case measure=>simp[intOf];omega
  have e:k=t.length:=by omega
  subst e;go_wp2;go_ret;exact⟨ret_i (by simp),rfl⟩
def fidx{α:Type}(p:α->Bool):List α->Int
 |[]=> -1
 |x::l=>if p x then 0 else (if fidx p l<0 then-1 else fidx p l+1)
theorem fidx_any{α:Type}(p:α->Bool):∀l:List α,decide (0<=fidx p l)=l.any p
 |[]=>by simp[fidx]
 | x::l=>by
  have ih:=fidx_any p l;unfold fidx;rw[List.any_cons];cases hp:p x with
  |true=>simp
  |false=>
   simp only[Bool.false_eq_true,if_false,Bool.false_or];rw[<-ih];split<;>rename_i h<;>simp<;>omega
theorem fidx_none{α:Type}(p:α->Bool):∀l:List α,(∀x∈l,p x=false)->fidx p l= -1
 |[],_=>rfl
 |x::l,h=>by
  unfold fidx;rw[h x (by simp),fidx_none p l (fun y hy=>h y (by simp[hy]))];simp
theorem fidx_hit{α:Type}(p:α->Bool):∀(l:List α) (k:Nat) (d:α),k<l.length->(∀i,i<k->p (l.getD i d)=false)->p (l.getD k d)=true->fidx p l=k
 |[],k,d,h,_,_=>by simp at h
 |x::l,0,d,_,_,h=>by
  unfold fidx;rw[am7]at h;simp[h]
 |x::l,k+1,d,hk,hn,h=>by
  have h0:=hn 0 (by omega);rw[am7]at h0;have ih:=fidx_hit p l k d (by simpa using hk) (fun i hi=>by simpa using hn (i+1) (by omega)) (by simpa using h);unfold fidx;rw[h0,ih];simp only[Bool.false_eq_true,if_false];rw[if_neg (by omega)];omega
theorem fidx_pre{α:Type}(p:α->Bool)(l:List α)(d:α)(h:∀i,i<l.length->p (l.getD i d)=false):fidx p l= -1:=
 fidx_none p l fun x hx=>by
  obtain⟨i,hi,rfl⟩:=ami hx;have:=h i hi;rwa[abs,alz hi]at this
def a34(n:Int):Bool:= !(betw (-100) n 100)
theorem aaE(n:Int)(w:World):
  Calls Tryz.prog 248 #[.int .i64 n] w fun e w'=>e= .returned (.bool (a34 n))/\w=w':=by
 unfold a34;go_enter Tryz.func248,Tryz.ntmps248;go_wp2_with (go_at_call 201;refine(between_any _ _ _ _).mono ?_;rintro e w' ⟨rfl,rfl⟩)
 go_ret;exact⟨rfl,rfl⟩
theorem adw(v:Value)(l:List Int)(w:World)(hv:IntsAt w v l):
  Calls Tryz.prog 254 #[v,.func (.func 248) #[] #[]] w fun e w'=>e= .returned (.int .i64 (fidx a34 l))/\w=w':=by
 obtain⟨a,cap,rfl,hl,hq⟩:=hv;go_enter Tryz.func254,Tryz.ntmps254;go_wp2;go_loop [8] (fun i=>∃k:Nat,k<=l.length/\i= .int .i64 k/\∀j,j<k->a34 (l.getD j 0)=false) (fun i=>l.length-(intOf i).toNat)
 case atStart=>exact⟨0,alE _,rfl,fun j hj=>by omega⟩
 case round=>
  obtain⟨k,hk,rfl,hn⟩:=hrel;by_cases hlt:k<l.length
  ·obtain⟨b,off,rfl,hc⟩:=hq (by omega);have hcell:=hc k hlt;clear hc hq;have HN:=hid hn;clear hn;generalize hx:l.getD k 0=x at hcell;have X:=hid hx;clear hx;cases hp:a34 x with
   |true=>
    have P:=hid hp;clear hp;go_wp2_with (go_at_call 248;refine(aaE _ _).mono ?_;rintro e w' ⟨rfl,rfl⟩;rw[P.out])
    go_ret;exact⟨ret_i (fidx_hit a34 l k 0 hlt HN.out (by rw[X.out];exact P.out)).symm,rfl⟩
   | false=>
    have P:=hid hp;clear hp;go_wp2_with (go_at_call 248;refine(aaE _ _).mono ?_;rintro e w' ⟨rfl,rfl⟩;rw[P.out])
    go_round
    case rel=>exact⟨k+1,by omega,by go_num,fun j hj=>by
     rcases am0.1 hj with h|rfl
     ·exact HN.out j h
     rw[X.out];exact P.out⟩
    case measure=>simp[intOf];omega
  have e:k=l.length:=by omega
  subst e;go_wp2;go_ret;exact⟨ret_i (fidx_pre a34 l 0 hn).symm,rfl⟩
theorem aci(v:Value)(l:List Int)(w:World)(hv:IntsAt w v l):
  Calls Tryz.prog 247 #[v,.func (.func 248) #[] #[]] w fun e w'=>e= .returned (.bool (l.any a34))/\w=w':=by
 have E:=hid (fidx_any a34 l);go_enter Tryz.func247,Tryz.ntmps247;go_wp2_with (go_at_call 254;refine(adw _ _ _ hv).mono ?_;rintro e w' ⟨rfl,rfl⟩)
 go_ret;exact⟨by rw[<-E.out];rfl,rfl⟩
theorem betw_iff(a b c:Int):betw a b c=true↔a<=b/\b<=c:=by simp[betw]
theorem ahG(l:List Int):(!l.any a34)=l.all fun n=>decide (-100<=n)&&decide (n<=100):=by
 rw[List.not_any_eq_all_not];congr 1;funext n;simp[a34,betw]
theorem akW(l:List Int):ao1 l=(betw 1 l.length 12&& !l.any a34):=by
 rw[ahG];unfold ao1 betw;congr 2
 ·apply decide_eq_decide.2;omega
 apply decide_eq_decide.2;omega
theorem afc(v:Value)(l:List Int)(w:World)(hv:IntsAt w v l):
  Calls Tryz.prog 230 #[v] w fun e w'=>e= .returned (.bool (ao1 l))/\w=w':=by
 have E:=hid (akW l);obtain⟨a,cap,rfl,hr⟩:=id hv;have hv':IntsAt w (.slice a l.length cap) l:=hv;clear hv;cases hb:betw 1 l.length 12 with
 |true=>
  have B:=hid hb;clear hb;go_enter Tryz.func230,Tryz.ntmps230;go_wp2_with (first|(go_at_call 201;refine(between_any _ _ _ _).mono ?_;rintro e w' ⟨rfl,rfl⟩;rw[B.out])|(go_at_call 247;refine(aci _ _ _ hv').mono ?_;rintro e w' ⟨rfl,rfl⟩))
  go_ret;exact⟨by rw[E.out,B.out];rfl,rfl⟩
 |false=>
  have B:=hid hb;clear hb;go_enter Tryz.func230,Tryz.ntmps230;go_wp2_with (first|(go_at_call 201;refine(between_any _ _ _ _).mono ?_;rintro e w' ⟨rfl,rfl⟩;rw[B.out]))
  go_ret;exact⟨by rw[E.out,B.out];rfl,rfl⟩
def a2J(l:List Int):Bool:= !ao1 l
theorem a9d(v:Value)(l:List Int)(w:World)(hv:IntsAt w v l):
  Calls Tryz.prog 229 #[v] w fun e w'=>e= .returned (.bool (a2J l))/\w=w':=by
 unfold a2J;go_enter Tryz.func229,Tryz.ntmps229;go_wp2_with (go_at_call 230;refine(afc _ _ _ hv).mono ?_;rintro e w' ⟨rfl,rfl⟩)
 go_ret;exact⟨rfl,rfl⟩
theorem adx(v:Value)(t:List (List Int))(w:World)(hv:RowsAt w v t):
  Calls Tryz.prog 246 #[v,.func (.func 229) #[] #[]] w fun e w'=>e= .returned (.int .i64 (fidx a2J t))/\w=w':=by
 obtain⟨a,cap,rfl,hl,hq⟩:=hv;go_enter Tryz.func246,Tryz.ntmps246;go_wp2;go_loop [8] (fun i=>∃k:Nat,k<=t.length/\i= .int .i64 k/\∀j,j<k->a2J (t.getD j [])=false) (fun i=>t.length-(intOf i).toNat)
 case atStart=>exact⟨0,alE _,rfl,fun j hj=>by omega⟩
 case round=>
  obtain⟨k,hk,rfl,hn⟩:=hrel;by_cases hlt:k<t.length
  ·obtain⟨b,off,rfl,hc⟩:=hq (by omega);obtain⟨x,hcell,hi⟩:=hc k hlt;clear hc hq;have HN:=hid hn;clear hn;generalize hx:t.getD k []=lk at hi;have X:=hid hx;clear hx;cases hp:a2J lk with
   |true=>
    have P:=hid hp;clear hp;go_wp2_with (go_at_call 229;refine(a9d _ _ _ hi).mono ?_;rintro e w' ⟨rfl,rfl⟩;rw[P.out])
    go_ret;exact⟨ret_i (fidx_hit a2J t k [] hlt HN.out (by rw[X.out];exact P.out)).symm,rfl⟩
   | false=>
    have P:=hid hp;clear hp;go_wp2_with (go_at_call 229;refine(a9d _ _ _ hi).mono ?_;rintro e w' ⟨rfl,rfl⟩;rw[P.out])
    go_round
    case rel=>exact⟨k+1,by omega,by go_num,fun j hj=>by
     rcases am0.1 hj with h|rfl
     ·exact HN.out j h
     rw[X.out];exact P.out⟩
    case measure=>simp[intOf];omega
  have e:k=t.length:=by omega
  subst e;go_wp2;go_ret;exact⟨ret_i (fidx_pre a2J t [] hn).symm,rfl⟩
theorem acj(v:Value)(t:List (List Int))(w:World)(hv:RowsAt w v t):
  Calls Tryz.prog 228 #[v,.func (.func 229) #[] #[]] w fun e w'=>e= .returned (.bool (t.any a2J))/\w=w':=by
 have E:=hid (fidx_any a2J t);go_enter Tryz.func228,Tryz.ntmps228;go_wp2_with (go_at_call 246;refine(adx _ _ _ hv).mono ?_;rintro e w' ⟨rfl,rfl⟩)
 go_ret;exact⟨by rw[<-E.out];rfl,rfl⟩
theorem ap8(t:List (List Int)):vld t=(betw 1 t.length 4&& !t.any a2J):=by
 unfold vld betw;congr 2
 ·apply decide_eq_decide.2;omega
 ·apply decide_eq_decide.2;omega
 rw[List.not_any_eq_all_not];congr 1;funext l;simp[a2J]
theorem valid_any(v:Value)(t:List (List Int))(w:World)(hv:RowsAt w v t):
  Calls Tryz.prog 194 #[v] w fun e w'=>e= .returned (.bool (vld t))/\w=w':=by
 have E:=hid (ap8 t);obtain⟨a,cap,rfl,hr⟩:=id hv;have hv':RowsAt w (.slice a t.length cap) t:=hv;clear hv;cases hb:betw 1 t.length 4 with
 |true=>
  have B:=hid hb;clear hb;go_enter Tryz.func194,Tryz.ntmps194;go_wp2_with (first|(go_at_call 201;refine(between_any _ _ _ _).mono ?_;rintro e w' ⟨rfl,rfl⟩;rw[B.out])|(go_at_call 228;refine(acj _ _ _ hv').mono ?_;rintro e w' ⟨rfl,rfl⟩))
  go_ret;exact⟨by rw[E.out,B.out];rfl,rfl⟩
 |false=>
  have B:=hid hb;clear hb;go_enter Tryz.func194,Tryz.ntmps194;go_wp2_with (first|(go_at_call 201;refine(between_any _ _ _ _).mono ?_;rintro e w' ⟨rfl,rfl⟩;rw[B.out]))
  go_ret;exact⟨by rw[E.out,B.out];rfl,rfl⟩
theorem Tryz.info64:(Tryz.prog.info? 284).map (fun i=>(i.zero,i.size,i.bytes))=some (some (.slice none 0 0),1,24):=by kernel_rfl
def NewT(t:List (List Int))(w:World)(e:Ending)(w':World):Prop:=
 ∃tv,e= .returned (.tuple #[tv,.int .i64 0])/\RowsAt w' tv t/\Below w.heap.size w w'
theorem afd(v:Value)(t:List (List Int))(w:World)(hv:RowsAt w v t)(hno:vld t=false):
  Calls Tryz.prog 231 #[v] w fun e w'=>e= .returned (.tuple #[.slice none 0 0,.int .i64 10])/\w=w':=by
 have N:=hid hno;clear hno;go_enter Tryz.func231,Tryz.ntmps231;go_wp2_with (go_at_call 194;refine(valid_any _ _ _ hv).mono ?_;rintro e w' ⟨rfl,rfl⟩;rw[N.out])
 go_ret2;exact⟨rfl,rfl⟩
theorem a7I(v:Value)(t:List (List Int))(w:World)(hv:RowsAt w v t)(hyes:vld t=true):
  Calls Tryz.prog 231 #[v] w (NewT t w):=by
 have T:=(vld_iff t).1 hyes
 have hlo:=T.lo;have hhi:=T.hi;obtain⟨i0,hi0,hz0,hz1,hz2⟩:=info_parts Tryz.info64;have N:=hid hyes;clear hyes T;obtain⟨a,cap,rfl,hl,hq⟩:=id hv;obtain⟨b,off,rfl,hc⟩:=hq (by omega);clear hq;go_enter Tryz.func231,Tryz.ntmps231;go_wp2_with (go_at_call 194;refine(valid_any _ _ _ hv).mono ?_;rintro e w' ⟨rfl,rfl⟩;rw[N.out])
 clear hv
 go_loopw [4,12] (fun o i wr=>∃(k:Nat) (xs:List Value),k<=t.length/\i= .int .i64 k/\xs.length=k/\wr.ownsRow w.heap.size 284 1 o k xs/\(∀j,j<k->IntsAt w (xs.getD j undef) (t.getD j []))/\Below w.heap.size w wr)
  (fun _ i _=>t.length-(intOf i).toNat)
 case atStart=>exact⟨0,[],alE _,rfl,rfl,World.ownsRow_nil _ _ _ _,fun j hj=>by omega,apC _ _⟩
 case round=>
  obtain⟨k,xs,hk,rfl,hxs,hown,hall,hbel⟩:=hrel;have hsz:=hbel.size;by_cases hlt:k<t.length
  ·obtain⟨x,hx0,hi⟩:=hc k hlt;generalize hlk:t.getD k []=lk at hi;have LK:=hid hlk;clear hlk;obtain⟨xa,xc,rfl,hxr⟩:=id hi;clear hxr;have hx:=keep_cell hbel hx0;have XL:=hid hxs;have HA:=hid hall;clear hc hx0 hxs hall;go_wp2_with (at_builtin;refine wpList_append_own _ rfl _ _ 251 rfl w.heap.size 284 i0 (.slice none 0 0) 1 24 Tryz.underlying251 hi0 hz0 hz1 hz2 rfl (by decide) _ _ _ rfl (hown.alloc _) ⟨wr.heap.size,0,none⟩ 1 1 [.slice xa lk.length xc] rfl rfl ?c1 ?c2 ?c3 ?c4 ?c5 ?_)
   case c1=>exact(a09 _ _ _)
   case c2=>intro u hu;simp at hu;subst hu;rfl
   case c3=>unfold maxLen;omega
   case c4=>omega
   case c5=>simp;omega
   intro v' w1 hown' hgrow _;have R:=below_append hbel hsz hown hgrow;clear hown hgrow hbel;go_wp2;go_roundw
   case rel=>exact⟨k+1,xs++[.slice xa lk.length xc],by omega,by go_num,by simp[XL.out],hown',fun j hj=>by
    rcases am0.1 hj with h|rfl
    ·rw[a1N _ _ _ (by rw[XL.out];exact h)];exact HA.out j h
    have e:=a1O xs (.slice xa lk.length xc) undef;rw[XL.out]at e;rw[e,LK.out];exact hi,R⟩
   case measure=>simp[intOf];omega
  have e:k=t.length:=by omega
  subst e;have XL:=hid hxs;have HA:=hid hall;clear hxs hall;go_wp2;go_ret2;exact⟨_,rfl,ace hown hl (fun i h=>(HA.out i h).below hbel),hbel⟩
def qe(t:List (List Int))(right:Bool):Int:=if vld t then (if right then 0 else 2)else 10
def qi(t:List (List Int))(right:Bool)(x:Int):Int:=if vld t&&right then x else 0
theorem afe{t:List (List Int)}(h:vld t=false)(r:Bool):qe t r=10:=by simp[qe,h]
theorem a9e{t:List (List Int)}(h:vld t=true):qe t false=2:=by simp[qe,h]
theorem ack{t:List (List Int)}(h:vld t=true):qe t true=0:=by simp[qe,h]
theorem aff{t:List (List Int)}(h:vld t=false)(r:Bool)(x:Int):qi t r x=0:=by simp[qi,h]
theorem a9f{t:List (List Int)}(x:Int):qi t false x=0:=by simp[qi]
theorem acl{t:List (List Int)}(h:vld t=true)(x:Int):qi t true x=x:=by simp[qi,h]
theorem a6X(v:Value)(t:List (List Int))(right:Bool)(g:Nat)(lb:Array Value)(x:Int)(w:World)(hv:RowsAt w v t)
  (eg:∀args w,(callFunc g args).run Tryz.prog w= .ok (.enter g args) w)
  (hg:vld t=true->right=true->∀W tv,RowsAt W tv t->Below w.heap.size w W->Calls Tryz.prog g (#[tv]++lb) W fun e W'=>e= .returned (.int .i64 x)/\Below W.heap.size W W'):
  Calls Tryz.prog 196 #[v,.bool right,.func (.func g) #[] lb] w fun e w'=>e= .returned (.tuple #[.int .i64 (qi t right x),.int .i64 (qe t right)])/\Below w.heap.size w w':=by
 cases hy:vld t with
 |false=>
  rw[aff hy,afe hy];clear hg;go_enter Tryz.func196,Tryz.ntmps196;go_wp2_with (go_at_call 231;refine(afd _ _ _ hv hy).mono ?_;rintro e w' ⟨rfl,rfl⟩)
  go_ret2;exact⟨rfl,apC _ _⟩
 | true=>
  cases right with
  |false=>
   rw[a9f,a9e hy];clear hg;go_enter Tryz.func196,Tryz.ntmps196;go_wp2_with (go_at_call 231;refine(a7I _ _ _ hv hy).mono ?_;rintro e w' ⟨tv,rfl,hr,hb⟩)
   go_ret2;exact⟨rfl,hb⟩
  |true=>
   rw[acl hy,ack hy];have hg':=hg hy rfl;have HG:=hid hg';clear hg hg';go_enter Tryz.func196,Tryz.ntmps196;go_wp2_with (first|(go_at_call 231;refine(a7I _ _ _ hv hy).mono ?_;rintro e w1 ⟨tv,rfl,hr,hb⟩)|(go_at_fn g;refine(HG.out _ _ hr hb).mono ?_;rintro e w2 ⟨rfl,hb2⟩))
   go_ret2;exact⟨rfl,below_trans hb hb2⟩
theorem ahH{a b:Nat}(ha2:a<=27720)(hb2:b<=12):a / Nat.gcd a b * b=Nat.lcm a b/\a / Nat.gcd a b * b<=332640:=by
 have h1:a / Nat.gcd a b * b=Nat.lcm a b:=by
  rw[Nat.lcm,anj a b,Nat.mul_div_assoc _ (Nat.gcd_dvd_left a b),anj]
 refine⟨h1,?_⟩;have h2:a / Nat.gcd a b<=27720:=alF (Nat.div_le_self _ _) ha2;exact alF (Nat.mul_le_mul h2 hb2) (by decide)
theorem gcd_step(x y:Nat):Nat.gcd y (x % y)=Nat.gcd x y:=by
 rw[Nat.gcd_comm x y,Nat.gcd_rec y x,Nat.gcd_comm]
theorem emod_cast(p q:Nat):((p:Int) % (q:Int))=((p % q:Nat):Int):=(amD p q).symm
theorem ahI(p q:Nat):((p:Int) / (q:Int))=((p / q:Nat):Int):=(Int.natCast_ediv p q).symm
theorem afg(a b:Nat)(w:World)(ha:1<=a)(hb:1<=b)(ha2:a<=27720)(hb2:b<=12):
  Calls Tryz.prog 249 #[.int .i64 a,.int .i64 b] w fun e w'=>e= .returned (.int .i64 (Nat.lcm a b:Nat))/\Below w.heap.size w w':=by
 have L:=ahH ha2 hb2;have L1:=hid L.1;have L2:=hid L.2;clear L;go_enter Tryz.func249,Tryz.ntmps249;go_wp2;go_loopw [5,6] (fun x y wr=>∃p q:Nat,x= .int .i64 p/\y= .int .i64 q/\1<=p/\p<=27720/\q<=27720/\Hid (Nat.gcd p q=Nat.gcd a b)/\Below w.heap.size w wr) (fun _ y _=>(intOf y).toNat)
 case atStart=>exact⟨a,b,rfl,rfl,ha,ha2,by omega,rfl,apC _ _⟩
 case round=>
  obtain⟨p,q,rfl,rfl,hp,hp2,hq2,G,hbel⟩:=hrel;by_cases hq:0<q
  ·have hm:=amI p hq;go_wp2;go_region
   all_goals go_wp2
   all_goals go_roundw
   case rel=>exact⟨q,p % q,rfl,by rw[emod_cast],by omega,by omega,by omega,(gcd_step p q).trans G.out,hbel.drew⟩
   case measure=>rw[emod_cast];simp only[intOf];omega
  have e:q=0:=by omega
  subst e;have G':=G.out;rw[Nat.gcd_zero_right]at G';clear G;have GH:=hid G';clear G';go_wp2;go_ret;refine⟨ret_i ?_,hbel⟩;have h2:=L2.out;have h3:=Nat.div_le_self a (a.gcd b)
  have h4:(-9223372036854775808:Int)<=((a / a.gcd b:Nat):Int)/\((a / a.gcd b:Nat):Int)<=9223372036854775807:=by
   generalize a / a.gcd b=z at *;omega
  rw[GH.out,ahI,IntWalk.wrap64_in ((a / a.gcd b:Nat):Int) h4,<-Int.natCast_mul,L1.out];apply IntWalk.wrap64_in;rw[L1.out]at h2;omega
def a3t(t:List (List Int))(k:Nat):Nat:=rnd (t.take k)
theorem a9g(t:List (List Int))(k:Nat)(hk:k<t.length):a3t t (k+1)=Nat.lcm (a3t t k) (t.getD k []).length:=by
 unfold a3t rnd;rw[alC hk,amN,abs,alz hk];rfl
theorem a8a{t:List (List Int)}(h:Vld t)(k:Nat):1<=a3t t k/\a3t t k<=27720:=by
 have hm:∀l∈t.take k,1<=l.length/\l.length<=12:=fun l hl=>⟨(h.wave l (amb hl)).1,(h.wave l (amb hl)).2.1⟩
 exact⟨a4z _ 1 (by omega) (fun l hl=>(hm l hl).1),Nat.le_of_dvd (by omega) (a3G _ 1 27720 (Nat.one_dvd _) (fun l hl=>acf (hm l hl).1 (hm l hl).2))⟩
theorem aaF(t:List (List Int)):a3t t t.length=rnd t:=by unfold a3t;rw[alV]
theorem a6Y(v:Value)(t:List (List Int))(w:World)(hv:RowsAt w v t)(ht:Vld t):
  Calls Tryz.prog 232 #[v] w fun e w'=>e= .returned (.int .i64 (rnd t:Nat))/\Below w.heap.size w w':=by
 obtain⟨a,cap,rfl,hl,hq⟩:=id hv;have hlo:=ht.lo;have hhi:=ht.hi;obtain⟨b,off,rfl,hc⟩:=hq (by omega);clear hq hv;go_enter Tryz.func232,Tryz.ntmps232;go_wp2;go_loopw [3,8] (fun s i wr=>∃k:Nat,k<=t.length/\i= .int .i64 k/\s= .int .i64 (a3t t k:Nat)/\Below w.heap.size w wr) (fun _ i _=>t.length-(intOf i).toNat)
 case atStart=>exact⟨0,alE _,rfl,rfl,apC _ _⟩
 case round=>
  obtain⟨k,hk,rfl,rfl,hbel⟩:=hrel;have hbd:=a8a ht k;by_cases hlt:k<t.length
  ·obtain⟨x,hx0,hi⟩:=hc k hlt;have hw:=ht.wave _ (a2I hlt);have hw1:=hw.1;have hw2:=hw.2.1;have E:=hid (a9g t k hlt);have hx:=keep_cell hbel hx0;generalize t.getD k []=lk at *;generalize a3t t k=r at *;obtain⟨xa,xc,rfl,hxr⟩:=id hi;clear hxr hi hw hx0 hc;go_wp2_with (go_at_call 249;refine(afg _ _ _ hbd.1 hw1 hbd.2 hw2).mono ?_;rintro e w1 ⟨rfl,hb1⟩)
   go_roundw
   case rel=>exact⟨k+1,by omega,by go_num,by rw[E.out],hbel.trans (hb1.mono hbel.size)⟩
   case measure=>simp[intOf];omega
  have e:k=t.length:=by omega
  subst e;go_wp2;go_ret;exact⟨ret_i (by rw[aaF]),hbel⟩
theorem a3H{t:List (List Int)}(h:Vld t)(a:Int)(n:Nat): -(400 * (n:Int))<=acc (spd t) a n/\acc (spd t) a n<=400 * n:=acc_bound _ 400 h.bd a n
theorem acm(v:Value)(t:List (List Int))(a:Int)(n:Nat)(w:World)(hv:RowsAt w v t)(ht:Vld t)(ha1: -10000000<=a)(ha2:a<=10000000)(hn:n<=10000000):
  Calls Tryz.prog 237 #[v,.int .i64 a,.int .i64 n] w fun e w'=>e= .returned (.int .i64 (acc (spd t) a n))/\w=w':=by
 go_enter Tryz.func237,Tryz.ntmps237;go_wp2;go_loop [7,10] (fun s i=>∃k:Nat,k<=n/\i= .int .i64 k/\s= .int .i64 (acc (spd t) a k)) (fun _ i=>n-(intOf i).toNat)
 case atStart=>exact⟨0,alE _,rfl,rfl⟩
 case round=>
  obtain⟨k,hk,rfl,rfl⟩:=hrel;by_cases hlt:k<n
  ·have b1:=a3H ht a k;have b2:=ht.bd (a+k);have E:=hid (show acc (spd t) a (k+1)=acc (spd t) a k+spd t (a+k)from rfl);generalize acc (spd t) a k=s at *;go_wp2_with (go_at_call 250;refine(a43 _ _ _ _ hv ht).mono ?_;rintro e w' ⟨rfl,rfl⟩)
   go_round
   case rel=>exact⟨k+1,by omega,by go_num,by rw[E.out]⟩
   case measure=>simp[intOf];omega
  have e:k=n:=by omega
  subst e;go_wp2;go_ret;exact⟨rfl,rfl⟩
theorem a5f{t:List (List Int)}(a:Int)(n:Nat):((n / rnd t:Nat):Int) * acc (spd t) 0 (rnd t)+acc (spd t) a (n % rnd t)=acc (spd t) a n:=
 ahF (ae9 t) a n
theorem a9h{t:List (List Int)}(h:Vld t)(n:Nat): -(400 * (n:Int))<=((n / rnd t:Nat):Int) * acc (spd t) 0 (rnd t)/\((n / rnd t:Nat):Int) * acc (spd t) 0 (rnd t)<=400 * n:=by
 have h1:=a5f (t:=t) 0 (n-n % rnd t);have h2:=a3H h 0 (n-n % rnd t);have hr:=h.rnd_pos
 have h3:(n-n % rnd t) / rnd t=n / rnd t:=by
  have:=Nat.div_add_mod n (rnd t);have e:n-n % rnd t=rnd t * (n / rnd t):=by omega
  rw[e,Nat.mul_div_cancel_left _ hr]
 have h4:(n-n % rnd t) % rnd t=0:=by
  have:=Nat.div_add_mod n (rnd t);have e:n-n % rnd t=rnd t * (n / rnd t):=by omega
  rw[e,Nat.mul_mod_right]
 rw[h3,h4]at h1;simp only[acc,Int.add_zero]at h1;rw[h1];omega
theorem ahJ(v:Value)(t:List (List Int))(a:Int)(n:Nat)(w:World)(hv:RowsAt w v t)(ht:Vld t)(ha1: -2000000<=a)(ha2:a<=2000000)(hn:n<=2000000):
  Calls Tryz.prog 203 #[v,.int .i64 a,.int .i64 n] w fun e w'=>e= .returned (.int .i64 (acc (spd t) a n))/\Below w.heap.size w w':=by
 have P:=a9h ht n;have E:=hid (a5f (t:=t) a n);have hr:=ht.rnd_pos;have hr2:=ht.rnd_le;have hm:=amI n hr;have hd:=Nat.div_le_self n (rnd t);have b2:=a3H ht a (n % rnd t);go_enter Tryz.func203,Tryz.ntmps203;go_wp2_with (go_at_call 232;refine(a6Y _ _ _ hv ht).mono ?_;rintro e w1 ⟨rfl,hb1⟩)
 have hv1:=hv.below hb1;have S1:=fun nq=>Calls.quiet_of_same (n:=nq) ((acm v t 0 (rnd t) _ (hv1.drewN nq) ht (by omega) (by omega) (by omega)).mono fun _ _ h=>⟨h.1,h.2.symm⟩);have S2:=fun nq=>Calls.quiet_of_same (n:=nq) ((acm v t a (n % rnd t) _ (hv1.drewN nq) ht (by omega) (by omega) (by omega)).mono fun _ _ h=>⟨h.1,h.2.symm⟩);rw[amD]at S2;have H1:=hid S1;have H2:=hid S2;have E':=E.out;rw[Int.natCast_ediv]at E' P;have E2:=hid E';have hdv:=IntWalk.tdiv_le n (rnd t) (by omega) (by omega);have hne:((rnd t:Int)==0)=false:=by simp;omega
 clear S1 S2 hv hv1 E E' hd hm;generalize acc (spd t) 0 (rnd t)=A0 at *;generalize acc (spd t) a (n % rnd t)=A1 at *;refine wp_region_quiet_lit (by kernel_rfl) (by kernel_rfl) ?_;repeat (any_goals (first|go_big_quiet_step ((go_at_call 237;first|(with_reducible exact H1.out _)|(with_reducible exact H2.out _)))|quiet_step (fail)))
 all_goals (refine wpQuiet_nil ?_;intro _ hw';obtain⟨nq,hw''⟩:=hw';subst hw'')
 all_goals go_wp2
 go_ret;exact⟨ret_i (by rw[E2.out];have:=a3H ht a n;exact IntWalk.wrap64_in _ (by omega)),belowN0 hb1 _⟩
theorem ajr{f:Int->Int}{r b k:Nat}(hk:k<r)(h:¬f k=f ((k:Int)+b)):ao0 f r b=false:=by
 unfold ao0;rw[List.all_eq_false];exact⟨k,List.mem_range.2 hk,by simpa using h⟩
theorem ajs{f:Int->Int}{r b:Nat}(h:∀k:Nat,k<r->f k=f ((k:Int)+b)):ao0 f r b=true:=by
 unfold ao0;rw[amh];exact fun k hk=>by simpa using h k (List.mem_range.1 hk)
theorem a7J(v:Value)(t:List (List Int))(b:Nat)(w:World)(hv:RowsAt w v t)(ht:Vld t)(hb:b<=100000):
  Calls Tryz.prog 233 #[v,.int .i64 b] w fun e w'=>e= .returned (.bool (ao0 (spd t) (rnd t) b))/\Below w.heap.size w w':=by
 have hr:=ht.rnd_pos;have hr2:=ht.rnd_le;go_enter Tryz.func233,Tryz.ntmps233;go_wp2_with (go_at_call 232;refine(a6Y _ _ _ hv ht).mono ?_;rintro e w1 ⟨rfl,hb1⟩)
 have hv1:=hv.below hb1;clear hv;go_loop [8] (fun i=>∃k:Nat,k<=rnd t/\i= .int .i64 k/\Hid (∀j:Nat,j<k->spd t j=spd t ((j:Int)+b))) (fun i=>rnd t-(intOf i).toNat)
 case atStart=>exact⟨0,alE _,rfl,fun j hj=>by omega⟩
 case round=>
  obtain⟨k,hk,rfl,H⟩:=hrel;by_cases hlt:k<rnd t
  ·by_cases he:spd t k=spd t ((k:Int)+b)
   ·have E:=hid he;have hd:(spd t k != spd t ((k:Int)+b))=false:=by simpa using he
    clear he;go_wp2_with (first|(go_at_call_of 250 (Value.int .i64 (k:Int));refine(a43 _ _ _ _ hv1 ht).mono ?_;rintro e w' ⟨rfl,rfl⟩)|(go_at_call_of 250 (Value.int .i64 ((k:Int)+b));refine(a43 _ _ _ _ hv1 ht).mono ?_;rintro e w' ⟨rfl,rfl⟩))
    go_round
    case rel=>exact⟨k+1,by omega,by go_num,fun j hj=>by
     rcases am0.1 hj with h|rfl
     ·exact H.out j h
     exact E.out⟩
    case measure=>simp[intOf];omega
   have E:=hid (ajr hlt he);have hd:(spd t k != spd t ((k:Int)+b))=true:=by simpa using he
   clear he;go_wp2_with (first|(go_at_call_of 250 (Value.int .i64 (k:Int));refine(a43 _ _ _ _ hv1 ht).mono ?_;rintro e w' ⟨rfl,rfl⟩)|(go_at_call_of 250 (Value.int .i64 ((k:Int)+b));refine(a43 _ _ _ _ hv1 ht).mono ?_;rintro e w' ⟨rfl,rfl⟩))
   go_ret;exact⟨by rw[E.out];rfl,hb1⟩
  have e:k=rnd t:=by omega
  have H2:=hid (ajs (b:=b) (f:=spd t) (r:=rnd t) (fun j hj=>H.out j (by omega)));subst e;go_wp2;go_ret;exact⟨by rw[H2.out];rfl,hb1⟩
theorem a9i{f:Int->Int}{r:Nat}(b:Nat):btFrom f r (r-r) b=r:=by rw[ani];rfl
theorem a9j{f:Int->Int}{r b:Nat}(hb:b<r)(h:r % b=0/\ao0 f r b=true):btFrom f r (r-b) b=b:=by
 rw[show r-b=(r-(b+1))+1 from by omega];unfold btFrom;rw[if_pos h]
theorem a3S{f:Int->Int}{r b:Nat}(hb:b<r)(h:¬(r % b=0/\ao0 f r b=true)):btFrom f r (r-b) b=btFrom f r (r-(b+1)) (b+1):=by
 rw[show r-b=(r-(b+1))+1 from by omega];conv=>lhs;unfold btFrom
 rw[if_neg h]
theorem ajt(v:Value)(t:List (List Int))(w:World)(hv:RowsAt w v t)(ht:Vld t):
  Calls Tryz.prog 197 #[v] w fun e w'=>e= .returned (.int .i64 (bt (spd t) (rnd t):Nat))/\Below w.heap.size w w':=by
 have hr:=ht.rnd_pos;have hr2:=ht.rnd_le;go_enter Tryz.func197,Tryz.ntmps197;go_wp2_with (go_at_call 232;refine(a6Y _ _ _ hv ht).mono ?_;rintro e w1 ⟨rfl,hb1⟩)
 go_loopw [4] (fun i wr=>∃b:Nat,1<=b/\b<=rnd t/\i= .int .i64 b/\Hid (btFrom (spd t) (rnd t) (rnd t-b) b=bt (spd t) (rnd t))/\Below w.heap.size w wr) (fun i _=>rnd t-(intOf i).toNat)
 case atStart=>exact⟨1,aly _,hr,rfl,rfl,hb1⟩
 case round=>
  obtain⟨b,hb0,hb,rfl,H,hbel⟩:=hrel;clear hb1;by_cases hlt:b<rnd t
  ·have hvr:=hv.below hbel;clear hv;by_cases hd:rnd t % b=0
   ·have hD:((rnd t:Int) % (b:Int)==0)=true:=by rw[beq_iff_eq,<-amD,hd];rfl
    cases hp:ao0 (spd t) (rnd t) b with
    |true=>
     have E:=hid (a9j hlt ⟨hd,hp⟩);have P:=hid hp;clear hp hd;go_wp2_with (go_at_call 233;refine(a7J _ _ _ _ hvr ht (by omega)).mono ?_;rintro e w2 ⟨rfl,hb2⟩;rw[P.out])
     go_ret;exact⟨ret_i (by rw[<-H.out,E.out]),hbel.trans (hb2.mono hbel.size)⟩
    |false=>
     have E:=hid (a3S (f:=spd t) hlt (fun h=>by rw[hp]at h;exact absurd h.2 (by simp)));have P:=hid hp;clear hp hd;go_wp2_with (go_at_call 233;refine(a7J _ _ _ _ hvr ht (by omega)).mono ?_;rintro e w2 ⟨rfl,hb2⟩;rw[P.out])
     go_roundw
     case rel=>exact⟨b+1,by omega,by omega,by go_num,by rw[<-E.out];exact H.out,hbel.trans (hb2.mono hbel.size)⟩
     case measure=>simp[intOf];omega
   have hD:((rnd t:Int) % (b:Int)==0)=false:=by rw[beq_eq_false_iff_ne,<-amD];omega
   have E:=hid (a3S (f:=spd t) hlt (fun h=>hd h.1));clear hd;go_wp2;go_roundw
   case rel=>exact⟨b+1,by omega,by omega,by go_num,by rw[<-E.out];exact H.out,hbel⟩
   case measure=>simp[intOf];omega
  have e:b=rnd t:=by omega
  have H':=H.out;rw[e,a9i]at H';have HH:=hid H';clear H' H;go_wp2;go_ret;exact⟨ret_i (by rw[<-HH.out]),hbel⟩
def hourB(n:Int):Bool:=betw (-1000000) n 1000000
def spanB(n:Int):Bool:=betw 0 n 1000000
theorem aaG(n:Int):hourB n=true↔ -1000000<=n/\n<=1000000:=betw_iff _ _ _
theorem spanB_iff(n:Int):spanB n=true↔0<=n/\n<=1000000:=betw_iff _ _ _
theorem a9k(n:Int)(w:World):
  Calls Tryz.prog 200 #[.int .i64 n] w fun e w'=>e= .returned (.bool (hourB n))/\w=w':=by
 unfold hourB;go_enter Tryz.func200,Tryz.ntmps200;go_wp2_with (go_at_call 201;refine(between_any _ _ _ _).mono ?_;rintro e w' ⟨rfl,rfl⟩)
 go_ret;exact⟨rfl,rfl⟩
theorem afh(v:Value)(t:List (List Int))(h n:Int)(B C:Nat)(w:World)(hv:RowsAt w v t)(ht:Vld t)(hcell:w.cell? ⟨B,0,none⟩=some (.int .i64 h))(hcell2:w.cell? ⟨C,0,none⟩=some (.int .i64 n))
  (hh:hourB h=true)(hn:spanB n=true):
  Calls Tryz.prog 202 #[v,.pointer (some ⟨B,0,none⟩),.pointer (some ⟨C,0,none⟩)] w fun e w'=>e= .returned (.int .i64 (acc (spd t) h n.toNat))/\Below w.heap.size w w':=by
 have h1:=(aaG h).1 hh
 have h2:=(spanB_iff n).1 hn
 obtain⟨n,rfl⟩:=alT h2.1;have h3:h<=1000000/\ -1000000<=h:=⟨h1.2,h1.1⟩
 clear hh hn h1;go_enter Tryz.func202,Tryz.ntmps202;go_wp2_with (go_at_call 203;refine(ahJ _ _ _ _ _ hv ht (by omega) (by omega) (by omega)).mono ?_;rintro e w1 ⟨rfl,hb1⟩)
 go_ret;exact⟨rfl,hb1⟩
theorem tDrift_any(v:Value)(t:List (List Int))(h n:Int)(w:World)(hv:RowsAt w v t):
  Calls Tryz.prog 152 #[v,.int .i64 h,.int .i64 n] w fun e w'=>e= .returned (.tuple #[.int .i64 (qi t (hourB h&&spanB n) (acc (spd t) h n.toNat)),.int .i64 (qe t (hourB h&&spanB n))])/\Below w.heap.size w w':=by
 have hal:Below w.heap.size w ((w.alloc (.cells #[.int .i64 h] 3)).alloc (.cells #[.int .i64 n] 3)):=((apC _ w).alloc (aly _) _).alloc (by simp) _
 have hv1:=hv.below hal;have hc1:((w.alloc (.cells #[.int .i64 h] 3)).alloc (.cells #[.int .i64 n] 3)).cell? ⟨w.heap.size,0,none⟩=some (.int .i64 h):=keep_cell ((apC _ _).alloc (aly _) _) (by simp)
 have hc2:((w.alloc (.cells #[.int .i64 h] 3)).alloc (.cells #[.int .i64 n] 3)).cell? ⟨w.heap.size+1,0,none⟩=some (.int .i64 n):=by
  have h1:(w.alloc (.cells #[.int .i64 h] 3)).heap.size=w.heap.size+1:=by simp
  rw[<-h1];simp
 have HA:=a6X v t (hourB h&&spanB n) 202 #[.pointer (some ⟨w.heap.size,0,none⟩),.pointer (some ⟨w.heap.size+1,0,none⟩)] (acc (spd t) h n.toNat) _ hv1 (enters_of Tryz.func202 (by kernel_rfl) rfl)
  (fun hy hr W tv hr' hb=>afh tv t h n w.heap.size (w.heap.size+1) W hr' ((vld_iff t).1 hy) (keep_cell hb hc1) (keep_cell hb hc2) (by simp at hr;exact hr.1) (by simp at hr;exact hr.2))
 have H:=hid HA;clear HA hc1 hc2 hv1 hv;unfold spanB at *;cases hh:hourB h with
 |true=>
  rw[hh]at H;have HH:=hid hh;clear hh;go_enter Tryz.func152,Tryz.ntmps152;go_wp2_with (first|(go_at_call 200;refine(a9k _ _).mono ?_;rintro e w' ⟨rfl,rfl⟩;rw[HH.out])|(go_at_call 201;refine(between_any _ _ _ _).mono ?_;rintro e w' ⟨rfl,rfl⟩)|(go_at_call 196;refine H.out.mono ?_;rintro e w1 ⟨rfl,hb1⟩))
  go_ret2;exact⟨rfl,below_trans hal hb1⟩
 |false=>
  rw[hh]at H;have HH:=hid hh;clear hh;go_enter Tryz.func152,Tryz.ntmps152;go_wp2_with (first|(go_at_call 200;refine(a9k _ _).mono ?_;rintro e w' ⟨rfl,rfl⟩;rw[HH.out])|(go_at_call 201;refine(between_any _ _ _ _).mono ?_;rintro e w' ⟨rfl,rfl⟩)|(go_at_call 196;refine H.out.mono ?_;rintro e w1 ⟨rfl,hb1⟩))
  go_ret2;exact⟨rfl,below_trans hal hb1⟩
theorem tBeat_any(v:Value)(t:List (List Int))(w:World)(hv:RowsAt w v t):
  Calls Tryz.prog 150 #[v] w fun e w'=>e= .returned (.tuple #[.int .i64 (qi t true (bt (spd t) (rnd t):Nat)),.int .i64 (qe t true)])/\Below w.heap.size w w':=by
 have HA:=a6X v t true 197 #[] (bt (spd t) (rnd t):Nat) _ hv (enters_of Tryz.func197 (by kernel_rfl) rfl)
  (fun hy _ W tv hr hb=>ajt tv t W hr ((vld_iff t).1 hy))
 have H:=hid HA;clear HA hv;go_enter Tryz.func150,Tryz.ntmps150;go_wp2_with (go_at_call 196;refine H.out.mono ?_;rintro e w1 ⟨rfl,hb1⟩)
 go_ret2;exact⟨rfl,hb1⟩
theorem a3T(n:Int)(w:World):
  Calls Tryz.prog 139 #[.int .i64 n] w fun e w'=>e= .returned (.bool (hourB n))/\w=w':=by
 have E:hourB n=(decide (-1000000<=n)&&decide (n<=1000000)):=rfl;by_cases h1: -1000000<=n
 ·by_cases h2:n<=1000000
  ·rw[E,decide_eq_true h1,decide_eq_true h2];clear E;go_enter Tryz.func139,Tryz.ntmps139;go_wp2;go_ret;exact⟨rfl,rfl⟩
  rw[E,decide_eq_true h1,decide_eq_false h2];clear E;go_enter Tryz.func139,Tryz.ntmps139;go_wp2;go_ret;exact⟨rfl,rfl⟩
 rw[E,decide_eq_false h1];clear E;go_enter Tryz.func139,Tryz.ntmps139;go_wp2;go_ret;exact⟨rfl,rfl⟩
theorem akX{t:List (List Int)}{k:Nat}(hk:k<t.length)(h:¬(1<=(t.getD k []).length/\(t.getD k []).length<=12/\∀n∈t.getD k [], -100<=n/\n<=100)):vld t=false:=by
 cases hv:vld t with
 |false=>rfl
 |true=>exact absurd (((vld_iff t).1 hv).wave _ (a2I hk)) h
theorem aju{t:List (List Int)}(h:∀j,j<t.length->ao1 (t.getD j [])=true):vld t=(decide (1<=t.length)&&decide (t.length<=4)):=by
 unfold vld
 rw[amh.2 (fun x hx=>by
  obtain⟨i,hi,rfl⟩:=ami hx;have:=h i hi;rwa[abs,alz hi]at this),Bool.and_true]
theorem getD_mem'{l:List Int}{k:Nat}(hk:k<l.length):l.getD k 0∈l:=by
 rw[abs,alz hk];simp
theorem akY{l:List Int}(h1:1<=l.length)(h2:l.length<=12)(h:∀j,j<l.length-> -100<=l.getD j 0/\l.getD j 0<=100):ao1 l=true:=
 (a1P l).2 ⟨h1,h2,fun n hn=>by
  obtain⟨i,hi,rfl⟩:=ami hn;have:=h i hi;rwa[abs,alz hi]at this⟩
theorem rValid_any (v:Value) (t:List (List Int)) (w:World) (hv:RowsAt w v t):
  Calls Tryz.prog 135 #[v] w fun e w'=>e= .returned (.bool (vld t))/\w=w':=by
 obtain⟨a,cap,rfl,hl,hq⟩:=hv;go_enter Tryz.func135,Tryz.ntmps135;go_wp2;go_loop [9] (fun i=>∃k:Nat,k<=t.length/\i= .int .i64 k/\Hid (∀j,j<k->ao1 (t.getD j [])=true)) (fun i=>t.length-(intOf i).toNat)
 case atStart=>exact⟨0,alE _,rfl,fun j hj=>by omega⟩
 case round=>
  obtain⟨k,hk,rfl,H⟩:=hrel;by_cases hlt:k<t.length
  ·obtain⟨b,off,rfl,hc⟩:=hq (by omega);obtain⟨x,hx,hi⟩:=hc k hlt;clear hc hq;have B:=hid (fun h=>akX hlt h);generalize hlk:t.getD k []=lk at *;have LK:=hid hlk;clear hlk;obtain⟨ra,rc,rfl,hrl,hrq⟩:=hi;by_cases h1:1<=lk.length
   ·by_cases h2:lk.length<=12
    ·go_wp2;go_loop [23] (fun i=>∃m:Nat,m<=lk.length/\i= .int .i64 m/\Hid (∀j,j<m-> -100<=lk.getD j 0/\lk.getD j 0<=100)) (fun i=>lk.length-(intOf i).toNat)
     case atStart=>exact⟨0,alE _,rfl,fun j hj=>by omega⟩
     case round=>
      obtain⟨m,hm,rfl,HM⟩:=hrel;by_cases hlt2:m<lk.length
      ·obtain⟨rb,ro,rfl,hrc⟩:=hrq (by omega);have hcell:=hrc m hlt2;clear hrc hrq;have MM:=hid (getD_mem' hlt2);generalize hy:lk.getD m 0=y at *;have Y:=hid hy;clear hy;by_cases h3:y< -100
       ·go_wp2;go_ret;exact⟨by rw[B.out (fun h=>by have:=h.2.2 y MM.out;omega)];rfl,rfl⟩
       by_cases h4:100<y
       ·go_wp2;go_ret;exact⟨by rw[B.out (fun h=>by have:=h.2.2 y MM.out;omega)];rfl,rfl⟩
       go_wp2;go_round
       case rel=>exact⟨m+1,by omega,by go_num,fun j hj=>by
        rcases am0.1 hj with h|rfl
        ·exact HM.out j h
        rw[Y.out];omega⟩
       case measure=>simp[intOf];omega
      have e:m=lk.length:=by omega
      subst e;have W:=hid (akY h1 h2 HM.out);go_wp2;go_round
      case rel=>exact⟨k+1,by omega,by go_num,fun j hj=>by
       rcases am0.1 hj with h|rfl
       ·exact H.out j h
       rw[LK.out];exact W.out⟩
      case measure=>simp[intOf];omega
    go_wp2;go_ret;exact⟨by rw[B.out (fun h=>h2 h.2.1)];rfl,rfl⟩
   go_wp2;go_ret;exact⟨by rw[B.out (fun h=>h1 h.1)];rfl,rfl⟩
  have e:k=t.length:=by omega
  subst e;have G:=hid (aju H.out);by_cases h1:1<=t.length
  ·by_cases h2:t.length<=4
   ·rw[decide_eq_true h1,decide_eq_true h2]at G;go_wp2;go_ret;exact⟨ret_b (by rw[G.out];first|rfl|(simp;omega)),rfl⟩
   rw[decide_eq_true h1,decide_eq_false h2]at G;go_wp2;go_ret;exact⟨ret_b (by rw[G.out];first|rfl|(simp;omega)),rfl⟩
  rw[decide_eq_false h1]at G;go_wp2;go_ret;exact⟨ret_b (by rw[G.out];first|rfl|(simp;omega)),rfl⟩
theorem ahK(h:Int)(n:Nat)(h0:0<n):(h.tmod n+n).tmod n=h % n:=by
 have h1:=a5q h n h0;rw[amT (by omega)];by_cases hn:h.tmod n<0
 ·rw[acg h n h0 hn];exact Int.emod_eq_of_lt (by omega) (by omega)
 rw[aaD h n h0 (by omega),Int.add_emod_right];exact Int.emod_eq_of_lt (by omega) (by omega)
theorem afi(h:Int)(n:Nat)(w:World)(h0:0<n)(hn:n<=1000000):
  Calls Tryz.prog 244 #[.int .i64 h,.int .i64 n] w fun e w'=>e= .returned (.int .i64 (h % (n:Int)))/\w=w':=by
 have hb:=a5q h n h0;have E:=ahK h n h0;rw[amT (by omega)]at E;have EE:=hid E;clear E;go_enter Tryz.func244,Tryz.ntmps244;go_wp2;go_ret;exact⟨ret_i EE.out,rfl⟩
theorem a9l(v:Value)(t:List (List Int))(h:Int)(w:World)(hv:RowsAt w v t)(ht:Vld t):
  Calls Tryz.prog 223 #[v,.int .i64 h] w fun e w'=>e= .returned (.int .i64 (spd t h))/\w=w':=by
 obtain⟨a,cap,rfl,hl,hq⟩:=hv;have hlo:=ht.lo;have hhi:=ht.hi;obtain⟨b,off,rfl,hc⟩:=hq (by omega);clear hq;go_enter Tryz.func223,Tryz.ntmps223;go_wp2;go_loop [5,10] (fun s i=>∃k:Nat,k<=t.length/\i= .int .i64 k/\s= .int .i64 (spd (t.take k) h)) (fun _ i=>t.length-(intOf i).toNat)
 case atStart=>exact⟨0,alE _,rfl,rfl⟩
 case round=>
  obtain⟨k,hk,rfl,rfl⟩:=hrel;by_cases hlt:k<t.length
  ·obtain⟨x,hx,hi⟩:=hc k hlt;have hw:=ht.wave _ (a2I hlt);have E:=hid (ach t k h hlt);have b1:=a4V (t.take k) (fun l hl=>(ht.wave l (amb hl)).2.2) h;have b2:=a6V hw.2.2 h;have hlen:(t.take k).length<=k:=List.length_take_le _ _
   have hw1:=hw.1;have hw2:=hw.2.1;generalize t.getD k []=lk at *;generalize spd (t.take k) h=s at *;obtain⟨ra,rc,rfl,hrl,hrq⟩:=hi;obtain⟨rb,ro,rfl,hrc⟩:=hrq (by omega);have hm1:=Int.emod_nonneg h (show (lk.length:Int)≠0 by omega);have hm2:=Int.emod_lt_of_pos h (show (0:Int)<lk.length by omega);have hcell:=hrc (h % (lk.length:Int)).toNat (by omega)
   have WE:=hid (show wat lk h=lk.getD (h % (lk.length:Int)).toNat 0 from rfl);rw[<-WE.out]at hcell;clear hc hw hrq hrc WE;go_wp2_with (go_at_call 244;refine(afi _ _ _ (by omega) (by omega)).mono ?_;rintro e w' ⟨rfl,rfl⟩)
   go_round
   case rel=>exact⟨k+1,by omega,by go_num,by rw[E.out]⟩
   case measure=>simp[intOf];omega
  have e:k=t.length:=by omega
  subst e;go_wp2;go_ret;exact⟨ret_i (by simp),rfl⟩
theorem rdrift_any(v:Value)(t:List (List Int))(a:Int)(n:Nat)(w:World)(hv:RowsAt w v t)(ht:Vld t)(ha1: -10000000<=a)(ha2:a<=10000000)(hn:n<=10000000):
  Calls Tryz.prog 183 #[v,.int .i64 a,.int .i64 n] w fun e w'=>e= .returned (.int .i64 (acc (spd t) a n))/\w=w':=by
 go_enter Tryz.func183,Tryz.ntmps183;go_wp2;go_loop [7,10] (fun s i=>∃k:Nat,k<=n/\i= .int .i64 k/\s= .int .i64 (acc (spd t) a k)) (fun _ i=>n-(intOf i).toNat)
 case atStart=>exact⟨0,alE _,rfl,rfl⟩
 case round=>
  obtain⟨k,hk,rfl,rfl⟩:=hrel;by_cases hlt:k<n
  ·have b1:=a3H ht a k;have b2:=ht.bd (a+k);have E:=hid (show acc (spd t) a (k+1)=acc (spd t) a k+spd t (a+k)from rfl);generalize acc (spd t) a k=s at *;go_wp2_with (go_at_call 223;refine(a9l _ _ _ _ hv ht).mono ?_;rintro e w' ⟨rfl,rfl⟩)
   go_round
   case rel=>exact⟨k+1,by omega,by go_num,by rw[E.out]⟩
   case measure=>simp[intOf];omega
  have e:k=n:=by omega
  subst e;go_wp2;go_ret;exact⟨rfl,rfl⟩
theorem afj{n l m q:Nat}(hm:m=q * n)(hle:m<=Nat.lcm n l)(hmod:m % l≠0):m+n<=Nat.lcm n l:=by
 have h1:n ∣ Nat.lcm n l:=Nat.dvd_lcm_left n l;obtain⟨c,hc⟩:=h1;have hne:m≠Nat.lcm n l:=fun e=>hmod (by rw[e];exact Nat.mod_eq_zero_of_dvd (Nat.dvd_lcm_right n l));have hlt:q * n<c * n:=by rw[<-hm,anj c n,<-hc];omega
 have hq:q<c:=Nat.lt_of_mul_lt_mul_right hlt;have:(q+1) * n<=c * n:=amL n hq;rw[hc,anj n c,hm];rw[anh]at this;omega
theorem afk{n l m q:Nat}(hm:m=q * n)(hm1:1<=q)(hn:1<=n)(hle:m<=Nat.lcm n l)(hmod:m % l=0):m=Nat.lcm n l:=by
 have h1:Nat.lcm n l ∣ m:=Nat.lcm_dvd (by rw[hm];exact Nat.dvd_mul_left n q) (Nat.dvd_of_mod_eq_zero hmod);have h2:0<m:=by rw[hm];exact Nat.mul_pos hm1 hn
 exact Nat.le_antisymm hle (Nat.le_of_dvd h2 h1)
theorem a9m(v:Value)(t:List (List Int))(w:World)(hv:RowsAt w v t)(ht:Vld t):
  Calls Tryz.prog 178 #[v] w fun e w'=>e= .returned (.int .i64 (rnd t:Nat))/\w=w':=by
 obtain⟨a,cap,rfl,hl,hq⟩:=id hv;have hlo:=ht.lo;have hhi:=ht.hi;obtain⟨b,off,rfl,hc⟩:=hq (by omega);clear hq hv;go_enter Tryz.func178,Tryz.ntmps178;go_wp2;go_loop [3,9] (fun s i=>∃k:Nat,k<=t.length/\i= .int .i64 k/\s= .int .i64 (a3t t k:Nat)) (fun _ i=>t.length-(intOf i).toNat)
 case atStart=>exact⟨0,alE _,rfl,rfl⟩
 case round=>
  obtain⟨k,hk,rfl,rfl⟩:=hrel;have hbd:=a8a ht k;by_cases hlt:k<t.length
  ·obtain⟨x,hx,hi⟩:=hc k hlt;have hw:=ht.wave _ (a2I hlt);have hw1:=hw.1;have hw2:=hw.2.1;have hbd2:=(a8a ht (k+1)).2
   have E':=a9g t k hlt;rw[E']at hbd2;have E:=hid E';clear E';generalize t.getD k []=lk at *;generalize a3t t k=r at *;obtain⟨xa,xc,rfl,hxr⟩:=id hi;clear hxr hi hw hc;have hr0:=Nat.le_of_dvd (Nat.lcm_pos hbd.1 hw1) (Nat.dvd_lcm_left r lk.length);generalize hL:Nat.lcm r lk.length=L at *;have HL:=hid hL;clear hL;go_wp2;go_loop [6] (fun i=>∃m q:Nat,i= .int .i64 m/\m<=L/\Hid (m=q * r)/\1<=q) (fun i=>L-(intOf i).toNat)
   case atStart=>exact⟨r,1,rfl,hr0,(Nat.one_mul r).symm,aly _⟩
   case round=>
    obtain⟨m,q,rfl,hmL,Q,hq⟩:=hrel;have hlen0:((lk.length:Int)==0)=false:=beq_eq_false_iff_ne.2 (by omega);by_cases hd:m % lk.length=0
    ·have D:((m:Int) % (lk.length:Int) != 0)=false:=by rw[<-amD,hd];rfl
     have EQ:=hid (afk Q.out hq hbd.1 (by rw[HL.out];exact hmL) hd);clear hd;go_wp2;go_round
     case rel=>exact⟨k+1,by omega,by go_num,by rw[E.out,EQ.out,HL.out]⟩
     case measure=>simp[intOf];omega
    have D:((m:Int) % (lk.length:Int) != 0)=true:=by rw[<-amD,bne_iff_ne];omega
    have hm':=afj Q.out (by rw[HL.out];exact hmL) hd;rw[HL.out]at hm';clear hd;go_wp2;go_round
    case rel=>exact⟨m+r,q+1,by go_num,hm',(by rw[anh,<-Q.out,Nat.one_mul]:m+r=(q+1) * r),by omega⟩
    case measure=>simp[intOf];omega
  have e:k=t.length:=by omega
  subst e;go_wp2;go_ret;exact⟨ret_i (by rw[aaF]),rfl⟩
theorem akZ(v:Value)(t:List (List Int))(a:Int)(n:Nat)(w:World)(hv:RowsAt w v t)(ht:Vld t)(ha1: -2000000<=a)(ha2:a<=2000000)(hn:n<=2000000):
  Calls Tryz.prog 140 #[v,.int .i64 a,.int .i64 n] w fun e w'=>e= .returned (.int .i64 (acc (spd t) a n))/\Below w.heap.size w w':=by
 have P:=a9h ht n;have E:=hid (a5f (t:=t) a n);have hr:=ht.rnd_pos;have hr2:=ht.rnd_le;have hm:=amI n hr;have hd:=Nat.div_le_self n (rnd t);have b2:=a3H ht a (n % rnd t);go_enter Tryz.func140,Tryz.ntmps140;go_wp2_with (go_at_call 178;refine(a9m _ _ _ hv ht).mono ?_;rintro e w1 ⟨rfl,rfl⟩)
 have S1:=fun nq=>Calls.quiet_of_same (n:=nq) ((rdrift_any v t 0 (rnd t) _ (hv.drewN nq) ht (by omega) (by omega) (by omega)).mono fun _ _ h=>⟨h.1,h.2.symm⟩);have S2:=fun nq=>Calls.quiet_of_same (n:=nq) ((rdrift_any v t a (n % rnd t) _ (hv.drewN nq) ht (by omega) (by omega) (by omega)).mono fun _ _ h=>⟨h.1,h.2.symm⟩);rw[amD]at S2;have H1:=hid S1;have H2:=hid S2;have E':=E.out;rw[Int.natCast_ediv]at E' P;have E2:=hid E';have hdv:=IntWalk.tdiv_le n (rnd t) (by omega) (by omega);have hne:((rnd t:Int)==0)=false:=by simp;omega
 clear S1 S2 hv E E' hd hm;generalize acc (spd t) 0 (rnd t)=A0 at *;generalize acc (spd t) a (n % rnd t)=A1 at *;refine wp_region_quiet_lit (by kernel_rfl) (by kernel_rfl) ?_;repeat (any_goals (first|go_big_quiet_step ((go_at_call 183;first|(with_reducible exact H1.out _)|(with_reducible exact H2.out _)))|quiet_step (fail)))
 all_goals (refine wpQuiet_nil ?_;intro _ hw';obtain⟨nq,hw''⟩:=hw';subst hw'')
 all_goals go_wp2
 go_ret;exact⟨ret_i (by rw[E2.out];have:=a3H ht a n;exact IntWalk.wrap64_in _ (by omega)),belowN0 (apC _ _) _⟩
theorem rDrift_any(v:Value)(t:List (List Int))(h n:Int)(w:World)(hv:RowsAt w v t):
  Calls Tryz.prog 107 #[v,.int .i64 h,.int .i64 n] w fun e w'=>e= .returned (.tuple #[.int .i64 (qi t (hourB h&&spanB n) (acc (spd t) h n.toNat)),.int .i64 (qe t (hourB h&&spanB n))])/\Below w.heap.size w w':=by
 cases hy:vld t with
 |false=>
  rw[aff hy,afe hy];have Y:=hid hy;clear hy;go_enter Tryz.func107,Tryz.ntmps107;go_wp2_with (go_at_call 135;refine(rValid_any _ _ _ hv).mono ?_;rintro e w' ⟨rfl,rfl⟩;rw[Y.out])
  go_ret2;exact⟨rfl,apC _ _⟩
 | true=>
  have T:=(vld_iff t).1 hy
  cases hr:hourB h with
  |false=>
   rw[Bool.false_and,a9f,a9e hy];have Y:=hid hy;have R:=hid hr;clear hy hr;go_enter Tryz.func107,Tryz.ntmps107;go_wp2_with (first|(go_at_call 135;refine(rValid_any _ _ _ hv).mono ?_;rintro e w' ⟨rfl,rfl⟩;rw[Y.out])|(go_at_call 139;refine(a3T _ _).mono ?_;rintro e w' ⟨rfl,rfl⟩;rw[R.out]))
   go_ret2;exact⟨rfl,apC _ _⟩
  | true=>
   by_cases h1:n<0
   ·have hs:spanB n=false:=by
     cases hs:spanB n with
     |false=>rfl
     |true=>have:=(spanB_iff n).1 hs;omega
    rw[hs,Bool.and_false,a9f,a9e hy];have Y:=hid hy;have R:=hid hr;clear hy hr hs;go_enter Tryz.func107,Tryz.ntmps107;go_wp2_with (first|(go_at_call 135;refine(rValid_any _ _ _ hv).mono ?_;rintro e w' ⟨rfl,rfl⟩;rw[Y.out])|(go_at_call 139;refine(a3T _ _).mono ?_;rintro e w' ⟨rfl,rfl⟩;rw[R.out]))
    go_ret2;exact⟨rfl,apC _ _⟩
   by_cases h2:1000000<n
   ·have hs:spanB n=false:=by
     cases hs:spanB n with
     |false=>rfl
     |true=>have:=(spanB_iff n).1 hs;omega
    rw[hs,Bool.and_false,a9f,a9e hy];have Y:=hid hy;have R:=hid hr;clear hy hr hs;go_enter Tryz.func107,Tryz.ntmps107;go_wp2_with (first|(go_at_call 135;refine(rValid_any _ _ _ hv).mono ?_;rintro e w' ⟨rfl,rfl⟩;rw[Y.out])|(go_at_call 139;refine(a3T _ _).mono ?_;rintro e w' ⟨rfl,rfl⟩;rw[R.out]))
    go_ret2;exact⟨rfl,apC _ _⟩
   have hs:spanB n=true:=(spanB_iff n).2 (by omega)
   have hh:=(aaG h).1 hr
   rw[hs,Bool.and_self,acl hy,ack hy];obtain⟨n,rfl⟩:=alT (show 0<=n by omega);rw[amo];have h3:h<=1000000/\ -1000000<=h:=⟨hh.2,hh.1⟩
   have Y:=hid hy;have R:=hid hr;clear hy hr hs hh;go_enter Tryz.func107,Tryz.ntmps107;go_wp2_with (first|(go_at_call 135;refine(rValid_any _ _ _ hv).mono ?_;rintro e w' ⟨rfl,rfl⟩;rw[Y.out])|(go_at_call 139;refine(a3T _ _).mono ?_;rintro e w' ⟨rfl,rfl⟩;rw[R.out])|(go_at_call 140;refine(akZ _ _ _ _ _ hv T (by omega) (by omega) (by omega)).mono ?_;rintro e w1 ⟨rfl,hb1⟩))
   go_ret2;exact⟨rfl,hb1⟩
theorem Tryz.infoInt:(Tryz.prog.info? 3).map (fun i=>(i.zero,i.size,i.bytes))=some (some (.int .i64 0),1,8):=by kernel_rfl
def sps(t:List (List Int))(n:Nat):List Int:=(List.range n).map fun(k:Nat)=>spd t (k:Int)
theorem a2V(t:List (List Int))(n:Nat):(sps t n).length=n:=by simp[sps]
theorem aea(t:List (List Int))(n k:Nat)(h:k<n):(sps t n).getD k 0=spd t k:=by simp[sps,abs,h]
def ap9(l:List Int)(w:World)(e:Ending)(w':World):Prop:=∃ov,e= .returned ov/\IntsAt w' ov l/\Below w.heap.size w w'
theorem afl(v:Value)(t:List (List Int))(n:Nat)(w:World)(hv:RowsAt w v t)(ht:Vld t)(hn:n<=1000000):
  Calls Tryz.prog 179 #[v,.int .i64 n] w (ap9 (sps t n) w):=by
 obtain⟨i0,hi0,hz0,hz1,hz2⟩:=info_parts Tryz.infoInt;go_enter Tryz.func179,Tryz.ntmps179;go_wp2_with (at_make;refine wpList_make_full _ rfl _ _ 122 rfl w.heap.size 3 i0 (.int .i64 0) 1 Tryz.underlying122 hi0 hz0 hz1 .i64 .i64 _ _ n rfl rfl rfl rfl (by rw[hz2];omega) (by unfold maxLen;omega) (aly _) ?_;intro w1 hown1 hgrow1)
 have hb1:Below w.heap.size w w1:=(apC _ _).grown hgrow1 (aly _) (fun k e=>by cases e)
 generalize (madeCells (Value.int .i64 0).cells (n * 1)).toList=ys at hown1
 clear hgrow1
 go_loopw [11] (fun i wr=>∃(k:Nat) (xs:List Value),k<=n/\i= .int .i64 k/\wr.ownsRow w.heap.size 3 1 (.slice (some ⟨w.heap.size,0,none⟩) n n) n xs/\(∀j,j<k->xs.getD j undef= .int .i64 (spd t j))/\Below w.heap.size w wr)
  (fun i _=>n-(intOf i).toNat)
 case atStart=>exact⟨0,_,alE _,rfl,hown1,fun j hj=>by omega,hb1⟩
 case round=>
  obtain⟨k,xs,hk,rfl,hown,hall,hbel⟩:=hrel;have A:=hid hall;clear hall hb1 hown1;by_cases hlt:k<n
  ·have hvr:=hv.below hbel;have hxl:=hown.1
   have hcell:wr.cell? ⟨w.heap.size,k,none⟩=some (xs.getD k undef):=by
    rw[hown.cellAt k (by omega),abs,alz (by omega)];rfl
   have hfr:=hown.frozenAt k;obtain⟨st1,st2⟩:=hown.stored k (.int .i64 (spd t k));have XL:=hid hxl;have S1:=hid st1;have S2:=hid st2;generalize xs.getD k undef=old at hcell;clear hv hxl st1 st2;go_wp2_with (go_at_call 223;refine(a9l _ _ _ _ hvr ht).mono ?_;rintro e w' ⟨rfl,rfl⟩)
   go_roundw
   case rel=>exact⟨k+1,xs.set k (.int .i64 (spd t k)),by omega,by go_num,S1.out,fun j hj=>by
    have hxl:=XL.out;by_cases e:j=k
    ·subst e;rw[abs,List.getElem?_set_self (by omega)];rfl
    rw[abs,List.getElem?_set_ne (by omega),<-abs];exact A.out j (by omega),hbel.setCell (aly _) _⟩
   case measure=>simp[intOf];omega
  have e:k=n:=by omega
  subst e;go_wp2;go_ret
  have hxs:xs=(sps t k).map (Value.int .i64):=by
   have hxl:=hown.1;apply List.ext_getElem (by simp[a2V];omega);intro j h1 h2;have:=A.out j (by simp[a2V]at h2;omega);rw[abs,alz h1]at this;simp at this;rw[this];simp[sps]
  refine⟨_,rfl,own_ints (e:=3) (base:=w.heap.size) ?_ (by rw[a2V];omega),hbel⟩;rw[a2V,<-hxs];exact hown
theorem ahL(f:Int->Int)(k b:Nat):ao0 f (k+1) b=(ao0 f k b&&(f k==f ((k:Int)+b))):=by
 unfold ao0;rw[List.range_succ,List.all_append];simp
theorem ints_cell{w:World}{v:Value}{l:List Int}(h:IntsAt w v l)(h0:0<l.length):
  ∃b off cap,v= .slice (some ⟨b,off,none⟩) l.length cap/\∀j,j<l.length->w.cell? ⟨b,off+j,none⟩=some (.int .i64 (l.getD j 0)):=by
 obtain⟨a,cap,rfl,_,hq⟩:=h;obtain⟨b,off,rfl,hc⟩:=hq h0;exact⟨b,off,cap,rfl,hc⟩
theorem rbeat_any (v:Value) (t:List (List Int)) (w:World) (hv:RowsAt w v t) (ht:Vld t):
  Calls Tryz.prog 136 #[v] w fun e w'=>e= .returned (.int .i64 (bt (spd t) (rnd t):Nat))/\Below w.heap.size w w':=by
 have hr:=ht.rnd_pos;have hr2:=ht.rnd_le;have hper:=ae9 t;go_enter Tryz.func136,Tryz.ntmps136
 go_wp2_with (first
  |(go_at_call 178;refine(a9m _ _ _ hv ht).mono ?_;rintro e w1 ⟨rfl,rfl⟩)
  |(go_at_call 179;refine(afl _ _ _ _ hv ht (by omega)).mono ?_;rintro e w2 ⟨lv,rfl,hl,hb2⟩;have hlc:=ints_cell hl (by rw[a2V];exact hr);rw[a2V]at hlc;obtain⟨lb,lo,lcap,rfl,hlcell⟩:=hlc))
 have LC:=hid hlcell;clear hl hlcell hv;go_loopw [5] (fun i wr=>∃b:Nat,1<=b/\b<=rnd t/\i= .int .i64 b/\Hid (btFrom (spd t) (rnd t) (rnd t-b) b=bt (spd t) (rnd t))/\Below w2.heap.size w2 wr) (fun i _=>rnd t-(intOf i).toNat)
 case atStart=>exact⟨1,aly _,hr,rfl,rfl,apC _ _⟩
 case round=>
  obtain⟨b,hb0,hb,rfl,H,hbel⟩:=hrel;by_cases hlt:b<rnd t
  ·by_cases hd:rnd t % b=0
   ·have hD:((rnd t:Int) % (b:Int) != 0)=false:=by rw[<-amD,hd];rfl
    obtain⟨wo,rfl⟩:∃wo:World,wo=wr:=⟨_,rfl⟩
    go_wp2;go_loopw [6,23] (fun s i wi=>∃k:Nat,k<=rnd t/\i= .int .i64 k/\s= .bool (ao0 (spd t) k b)/\Below w2.heap.size w2 wi) (fun _ i _=>rnd t-(intOf i).toNat)
    case atStart=>exact⟨0,alE _,rfl,rfl,hbel⟩
    case round=>
     obtain⟨k,hk,rfl,rfl,hbi⟩:=hrel;clear hbel;by_cases hlt2:k<rnd t
     ·have hs:=ahL (spd t) k b;have hm:=amI (k+b) hr;have hc1:=LC.out k hlt2;have hc2:=LC.out ((k+b) % rnd t) hm;rw[aea _ _ _ hlt2]at hc1;rw[aea _ _ _ hm,amD,hper.mod,Int.natCast_add]at hc2;have hc1':=keep_cell hbi hc1;have hc2':=keep_cell hbi hc2;clear hc1 hc2;generalize spd t k=s1 at *;generalize spd t ((k:Int)+b)=s2 at *;have hm1:0<=((k:Int)+b) % (rnd t:Int):=Int.emod_nonneg _ (by omega);have hm2:((k:Int)+b) % (rnd t:Int)<rnd t:=Int.emod_lt_of_pos _ (by omega);have hne:((rnd t:Int)==0)=false:=beq_eq_false_iff_ne.2 (by omega);cases hp:ao0 (spd t) k b with
      | true=>
       by_cases he:s1=s2
       ·have hE:(s1==s2)=true:=by simpa using he
        rw[hp,hE]at hs;have S:=hid hs;have PP:=hid hp;clear hs he hp;go_wp2;refine wp_region_quiet_lit (by kernel_rfl) (by kernel_rfl) ?_;repeat (any_goals (first|go_big_quiet_step (fail)|quiet_step (fail)))
        all_goals (refine wpQuiet_nil ?_;intro _ hw';obtain⟨nq,hw''⟩:=hw';subst hw'')
        all_goals go_wp2
        go_roundw
        case rel=>exact⟨k+1,by omega,by go_num,by rw[S.out];rfl,belowN0 hbi _⟩
        case measure=>simp[intOf];omega
       have hE:(s1==s2)=false:=by simpa using he
       rw[hp,hE]at hs;have S:=hid hs;have PP:=hid hp;clear hs he hp;go_wp2;refine wp_region_quiet_lit (by kernel_rfl) (by kernel_rfl) ?_;repeat (any_goals (first|go_big_quiet_step (fail)|quiet_step (fail)))
       all_goals (refine wpQuiet_nil ?_;intro _ hw';obtain⟨nq,hw''⟩:=hw';subst hw'')
       all_goals go_wp2
       go_roundw
       case rel=>exact⟨k+1,by omega,by go_num,by rw[S.out];rfl,belowN0 hbi _⟩
       case measure=>simp[intOf];omega
      |false=>
       rw[hp]at hs;have S:=hid hs;have PP:=hid hp;clear hs hp;go_wp2;refine wp_region_quiet_lit (by kernel_rfl) (by kernel_rfl) ?_;repeat (any_goals (first|go_big_quiet_step (fail)|quiet_step (fail)))
       all_goals (refine wpQuiet_nil ?_;intro _ hw';obtain⟨nq,hw''⟩:=hw';subst hw'')
       all_goals go_wp2
       go_roundw
       case rel=>exact⟨k+1,by omega,by go_num,by rw[S.out];rfl,belowN0 hbi _⟩
       case measure=>simp[intOf];omega
     have e:k=rnd t:=by omega
     subst e;cases hp:ao0 (spd t) (rnd t) b with
     |true=>
      have E:=hid (a9j hlt ⟨hd,hp⟩);have PP:=hid hp;clear hp hd;go_wp2;go_ret;exact⟨ret_i (by rw[<-H.out,E.out]),below_trans hb2 hbi⟩
     |false=>
      have E:=hid (a3S (f:=spd t) hlt (fun h=>by rw[hp]at h;exact absurd h.2 (by simp)));have PP:=hid hp;clear hp hd;go_wp2;go_roundw
      case rel=>exact⟨b+1,by omega,by omega,by go_num,by rw[<-E.out];exact H.out,hbi⟩
      case measure=>simp[intOf];omega
   have hD:((rnd t:Int) % (b:Int) != 0)=true:=by rw[<-amD,bne_iff_ne];omega
   have E:=hid (a3S (f:=spd t) hlt (fun h=>hd h.1));clear hd;go_wp2;go_roundw
   case rel=>exact⟨b+1,by omega,by omega,by go_num,by rw[<-E.out];exact H.out,hbel⟩
   case measure=>simp[intOf];omega
  have e:b=rnd t:=by omega
  have H':=H.out;rw[e,a9i]at H';have HH:=hid H';clear H' H;go_wp2;go_ret;exact⟨ret_i (by rw[<-HH.out]),below_trans hb2 hbel⟩
theorem rBeat_any(v:Value)(t:List (List Int))(w:World)(hv:RowsAt w v t):
  Calls Tryz.prog 105 #[v] w fun e w'=>e= .returned (.tuple #[.int .i64 (qi t true (bt (spd t) (rnd t):Nat)),.int .i64 (qe t true)])/\Below w.heap.size w w':=by
 cases hy:vld t with
 | false=>
  rw[aff hy,afe hy];have Y:=hid hy;clear hy;go_enter Tryz.func105,Tryz.ntmps105
  go_wp2_with (first
   |(go_at_call 135;refine(rValid_any _ _ _ hv).mono ?_;rintro e w' ⟨rfl,rfl⟩;rw[Y.out]))
  go_ret2;exact⟨rfl,apC _ _⟩
 | true=>
  rw[acl hy,ack hy];have T:=(vld_iff t).1 hy
  have hr2:=T.rnd_le;have Y:=hid hy;clear hy;go_enter Tryz.func105,Tryz.ntmps105
  go_wp2_with (first
   |(go_at_call 135;refine(rValid_any _ _ _ hv).mono ?_;rintro e w' ⟨rfl,rfl⟩;rw[Y.out])
   |(go_at_call 136;refine(rbeat_any _ _ _ hv T).mono ?_;rintro e w1 ⟨rfl,hb1⟩))
  go_ret2;exact⟨rfl,hb1⟩
end Go.Proofs.YtdfkaijeppdhaaaGreatDoor.Td
