/- Part of the proof. -/
import Derived.Test.YtdfkaijeppdhaaaGreatDoorZHs21
set_option maxRecDepth 100000
set_option maxHeartbeats 8000000
set_option linter.unusedSimpArgs false
set_option linter.unusedVariables false

namespace Go.Proofs.YtdfkaijeppdhaaaGreatDoor.Td
open Lib (hid)
open Proofs.Tryz Go.RowKit
def betw(a b c:Int):Bool:=decide (a<=b)&&decide (b<=c)
theorem between_any(a b c:Int)(w:World):
  Calls prog 201 #[.int .i64 a,.int .i64 b,.int .i64 c] w fun e w'=>e= .returned (.bool (betw a b c))/\w=w':=by
 unfold betw;by_cases h1:a<=b
 ·by_cases h2:b<=c
  ·go_enter func201,ntmps201;go_wp2;go_ret;exact⟨by simp[h1,h2],rfl⟩
  go_enter func201,ntmps201;go_wp2;go_ret;exact⟨by simp[h2],rfl⟩
 go_enter func201,ntmps201;go_wp2;go_ret;exact⟨by rw[decide_eq_false (show¬a<=b by omega)];rfl,rfl⟩
theorem a6E(h:Int)(n:Nat)(h0:0<n): -(n:Int)<h.tmod n/\h.tmod n<n:=by
 have h1:=Int.tmod_lt_of_pos h (show (0:Int)<n by omega);have h2:=Int.tmod_lt_of_pos (-h) (show (0:Int)<n by omega);rw[Int.neg_tmod]at h2;omega
theorem ae2(h:Int)(n:Nat)(h0:0<n)(hn:h.tmod n<0):h % n=h.tmod n+n:=by
 have h1:=a6E h n h0;have h2:=Int.mul_tdiv_add_tmod h n
 have e:h=(h.tmod n+n)+n * (h.tdiv n+ -1):=by
  rw[Int.mul_add];generalize (n:Int) * h.tdiv n=x at *;omega
 conv=>lhs;rw[e]
 rw[Int.add_mul_emod_self_left];exact Int.emod_eq_of_lt om om
theorem aco(h:Int)(n:Nat)(h0:0<n)(hn:0<=h.tmod n):h % n=h.tmod n:=by
 have h1:=a6E h n h0;have h2:=Int.mul_tdiv_add_tmod h n;have e:h=h.tmod n+n * h.tdiv n:=om;conv=>lhs;rw[e]
 rw[Int.add_mul_emod_self_left];exact Int.emod_eq_of_lt om om
theorem ret_b{a b:Bool}(h:a=b):Ending.returned (.bool a)= .returned (.bool b):=by rw[h]
theorem ret_i{a b:Int}(h:a=b):Ending.returned (.int .i64 a)= .returned (.int .i64 b):=by rw[h]
theorem anK(v:Value)(l:List Int)(h:Int)(w:World)(hv:IntsAt w v l)(h0:0<l.length):
  Calls prog 255 #[v,.int .i64 h] w fun e w'=>e= .returned (.int .i64 (wat l h))/\w=w':=by
 obtain⟨a,cap,rfl,hl,hq⟩:=hv;obtain⟨b,off,rfl,hc⟩:=hq h0;clear hq;have ⟨hb1,hb2⟩:=a6E h l.length h0;by_cases hn:h.tmod l.length<0
 ·have E:=hid (ae2 h l.length h0 hn);have hcell:=hc (h.tmod l.length+l.length).toNat om
  clear hc;generalize hx:l.getD _ 0=x at hcell;have X:=hid hx;clear hx;go_enter func255,ntmps255;go_wp2;go_ret;exact⟨ret_i (by unfold wat;rw[E.out];exact X.out.symm),rfl⟩
 have E:=hid (aco h l.length h0 om);have hcell:=hc (h.tmod l.length).toNat om
 clear hc;generalize hx:l.getD _ 0=x at hcell;have X:=hid hx;clear hx;go_enter func255,ntmps255;go_wp2;go_ret;exact⟨ret_i (by unfold wat;rw[E.out];exact X.out.symm),rfl⟩
theorem ae3(t:List (List Int))(k:Nat)(h:Int)(hk:k<t.length):spd (t.take (k+1)) h=spd (t.take k) h+wat (t.getD k []) h:=by
 rw[aon hk,ah6,a7k,amU,aoh,aoj hk];simp
theorem a3y{t:List (List Int)}{k:Nat}(hk:k<t.length):t.getD k []∈t:=by
 rw[aoh,aoj hk];simp
theorem a5b(v:Value)(t:List (List Int))(h:Int)(w:World)(hv:RowsAt w v t)(ht:Vld t):
  Calls prog 250 #[v,.int .i64 h] w fun e w'=>e= .returned (.int .i64 (spd t h))/\w=w':=by
 obtain⟨a,cap,rfl,hl,hq⟩:=hv;have hlo:=ht.lo;have hhi:=ht.hi;obtain⟨b,off,rfl,hc⟩:=hq om;clear hq;go_enter func250,ntmps250;go_wp2;go_loop [5,10] (fun s i=>∃k:Nat,k<=t.length/\i= .int .i64 k/\s= .int .i64 (spd (t.take k) h)) (fun _ i=>t.length-(intOf i).toNat)
 case atStart=>exact⟨0,aot _,rfl,rfl⟩
 case round=>
  obtain⟨k,hk,rfl,rfl⟩:=hrel;by_cases hlt:k<t.length
  ·obtain⟨x,hx,hi⟩:=hc k hlt;have hw:=ht.wave _ (a3y hlt);have E:=hid (ae3 t k h hlt);have b1:=a6a (t.take k) (fun l hl=>(ht.wave l (ap2 hl)).2.2) h;have b2:=a8q hw.2.2 h;have hlen:(t.take k).length<=k:=List.length_take_le _ _
   have hw1:=hw.1;have ht4:t.length<=4:=hhi;generalize t.getD k []=lk at *;generalize spd (t.take k) h=s at *;clear hc hw;go_wp2_with (go_at_call 255;refine(anK _ _ _ _ hi hw1).mono ?_;rintro e w' ⟨rfl,rfl⟩)
   go_round
   case rel=>exact⟨k+1,om,by go_num,by rw[E.out]⟩
   case measure=>simp[intOf];omega
  have e:k=t.length:=om;subst e;go_wp2;go_ret;exact⟨ret_i oz,rfl⟩
def fidx{α:Type}(p:α->Bool):List α->Int
 |[]=> -1
 |x::l=>if p x then 0 else (if fidx p l<0 then-1 else fidx p l+1)
theorem fidx_any{α:Type}(p:α->Bool):∀l:List α,decide (0<=fidx p l)=l.any p
 |[]=>by simp[fidx]
 | x::l=>by
  have ih:=fidx_any p l;unfold fidx;rw[List.any_cons];cases hp:p x with
  |true=>simp
  |false=>
   simp only[Bool.false_eq_true,if_false,Bool.false_or];rw[<-ih];split<;>rename_i h<;>simp<;>omega
theorem fidx_none{α:Type}(p:α->Bool):∀l:List α,(∀x∈l,p x=false)->fidx p l= -1
 |[],_=>rfl
 |x::l,h=>by
  unfold fidx;rw[h x oz,fidx_none p l (fun y hy=>h y (by simp[hy]))];simp
theorem fidx_hit{α:Type}(p:α->Bool):∀(l:List α) (k:Nat) (d:α),k<l.length->(∀i,i<k->p (l.getD i d)=false)->p (l.getD k d)=true->fidx p l=k
 |[],k,d,h,_,_=>by simp at h
 |x::l,0,d,_,_,h=>by
  unfold fidx;rw[aoV]at h;simp[h]
 |x::l,k+1,d,hk,hn,h=>by
  have h0:=hn 0 om;rw[aoV]at h0;have ih:=fidx_hit p l k d (by simpa using hk) (fun i hi=>by simpa using hn (i+1) om) (by simpa using h);unfold fidx;rw[h0,ih];simp only[Bool.false_eq_true,if_false];rw[if_neg om];omega
theorem fidx_pre{α:Type}(p:α->Bool)(l:List α)(d:α)(h:∀i,i<l.length->p (l.getD i d)=false):fidx p l= -1:=
 fidx_none p l fun x hx=>by
  obtain⟨i,hi,rfl⟩:=apc hx;have:=h i hi;rwa[aoh,aoj hi]at this
def a3V(n:Int):Bool:= !(betw (-100) n 100)
theorem acp(n:Int)(w:World):
  Calls prog 248 #[.int .i64 n] w fun e w'=>e= .returned (.bool (a3V n))/\w=w':=by
 unfold a3V;go_enter func248,ntmps248;go_wp2_with (go_at_call 201;refine(between_any _ _ _ _).mono ?_;rintro e w' ⟨rfl,rfl⟩)
 go_ret;exact⟨rfl,rfl⟩
theorem afr(v:Value)(l:List Int)(w:World)(hv:IntsAt w v l):
  Calls prog 254 #[v,.func (.func 248) #[] #[]] w fun e w'=>e= .returned (.int .i64 (fidx a3V l))/\w=w':=by
 obtain⟨a,cap,rfl,hl,hq⟩:=hv;go_enter func254,ntmps254;go_wp2;go_loop [8] (fun i=>∃k:Nat,k<=l.length/\i= .int .i64 k/\∀j,j<k->a3V (l.getD j 0)=false) (fun i=>l.length-(intOf i).toNat)
 case atStart=>exact⟨0,aot _,rfl,fun j hj=>om⟩
 case round=>
  obtain⟨k,hk,rfl,hn⟩:=hrel;by_cases hlt:k<l.length
  ·obtain⟨b,off,rfl,hc⟩:=hq om;have hcell:=hc k hlt;clear hc hq;have HN:=hid hn;clear hn;generalize hx:l.getD k 0=x at hcell;have X:=hid hx;clear hx;cases hp:a3V x with
   |true=>
    have P:=hid hp;clear hp;go_wp2_with (go_at_call 248;refine(acp _ _).mono ?_;rintro e w' ⟨rfl,rfl⟩;rw[P.out])
    go_ret;exact⟨ret_i (fidx_hit a3V l k 0 hlt HN.out (by rw[X.out];exact P.out)).symm,rfl⟩
   | false=>
    have P:=hid hp;clear hp;go_wp2_with (go_at_call 248;refine(acp _ _).mono ?_;rintro e w' ⟨rfl,rfl⟩;rw[P.out])
    go_round
    case rel=>exact⟨k+1,om,by go_num,fun j hj=>by
     rcases aoO.1 hj with h|rfl
     ·exact HN.out j h
     rw[X.out];exact P.out⟩
    case measure=>simp[intOf];omega
  have e:k=l.length:=om;subst e;go_wp2;go_ret;exact⟨ret_i (fidx_pre a3V l 0 hn).symm,rfl⟩
theorem ae4(v:Value)(l:List Int)(w:World)(hv:IntsAt w v l):
  Calls prog 247 #[v,.func (.func 248) #[] #[]] w fun e w'=>e= .returned (.bool (l.any a3V))/\w=w':=by
 have E:=hid (fidx_any a3V l);go_enter func247,ntmps247;go_wp2_with (go_at_call 254;refine(afr _ _ _ hv).mono ?_;rintro e w' ⟨rfl,rfl⟩)
 go_ret;exact⟨by rw[<-E.out];rfl,rfl⟩
theorem betw_iff(a b c:Int):betw a b c=true↔a<=b/\b<=c:=by simp[betw]
theorem ajy(l:List Int):(!l.any a3V)=l.all fun n=>decide (-100<=n)&&decide (n<=100):=by
 rw[List.not_any_eq_all_not];congr 1;funext n;simp[a3V,betw]
theorem amV(l:List Int):a43 l=(betw 1 l.length 12&& !l.any a3V):=by
 rw[ajy];unfold a43 betw;congr 2
 ·apply decide_eq_decide.2;omega
 apply decide_eq_decide.2;omega
theorem ah7(v:Value)(l:List Int)(w:World)(hv:IntsAt w v l):
  Calls prog 230 #[v] w fun e w'=>e= .returned (.bool (a43 l))/\w=w':=by
 have E:=hid (amV l);obtain⟨a,cap,rfl,hr⟩:=id hv;have hv':IntsAt w (.slice a l.length cap) l:=hv;clear hv;cases hb:betw 1 l.length 12 with
 |true=>
  have B:=hid hb;clear hb;go_enter func230,ntmps230;go_wp2_with (first|(go_at_call 201;refine(between_any _ _ _ _).mono ?_;rintro e w' ⟨rfl,rfl⟩;rw[B.out])|(go_at_call 247;refine(ae4 _ _ _ hv').mono ?_;rintro e w' ⟨rfl,rfl⟩))
  go_ret;exact⟨by rw[E.out,B.out];rfl,rfl⟩
 |false=>
  have B:=hid hb;clear hb;go_enter func230,ntmps230;go_wp2_with (first|(go_at_call 201;refine(between_any _ _ _ _).mono ?_;rintro e w' ⟨rfl,rfl⟩;rw[B.out]))
  go_ret;exact⟨by rw[E.out,B.out];rfl,rfl⟩
def a3z(l:List Int):Bool:= !a43 l
theorem aaO(v:Value)(l:List Int)(w:World)(hv:IntsAt w v l):
  Calls prog 229 #[v] w fun e w'=>e= .returned (.bool (a3z l))/\w=w':=by
 unfold a3z;go_enter func229,ntmps229;go_wp2_with (go_at_call 230;refine(ah7 _ _ _ hv).mono ?_;rintro e w' ⟨rfl,rfl⟩)
 go_ret;exact⟨rfl,rfl⟩
theorem afs(v:Value)(t:List (List Int))(w:World)(hv:RowsAt w v t):
  Calls prog 246 #[v,.func (.func 229) #[] #[]] w fun e w'=>e= .returned (.int .i64 (fidx a3z t))/\w=w':=by
 obtain⟨a,cap,rfl,hl,hq⟩:=hv;go_enter func246,ntmps246;go_wp2;go_loop [8] (fun i=>∃k:Nat,k<=t.length/\i= .int .i64 k/\∀j,j<k->a3z (t.getD j [])=false) (fun i=>t.length-(intOf i).toNat)
 case atStart=>exact⟨0,aot _,rfl,fun j hj=>om⟩
 case round=>
  obtain⟨k,hk,rfl,hn⟩:=hrel;by_cases hlt:k<t.length
  ·obtain⟨b,off,rfl,hc⟩:=hq om;obtain⟨x,hcell,hi⟩:=hc k hlt;clear hc hq;have HN:=hid hn;clear hn;generalize hx:t.getD k []=lk at hi;have X:=hid hx;clear hx;cases hp:a3z lk with
   |true=>
    have P:=hid hp;clear hp;go_wp2_with (go_at_call 229;refine(aaO _ _ _ hi).mono ?_;rintro e w' ⟨rfl,rfl⟩;rw[P.out])
    go_ret;exact⟨ret_i (fidx_hit a3z t k [] hlt HN.out (by rw[X.out];exact P.out)).symm,rfl⟩
   | false=>
    have P:=hid hp;clear hp;go_wp2_with (go_at_call 229;refine(aaO _ _ _ hi).mono ?_;rintro e w' ⟨rfl,rfl⟩;rw[P.out])
    go_round
    case rel=>exact⟨k+1,om,by go_num,fun j hj=>by
     rcases aoO.1 hj with h|rfl
     ·exact HN.out j h
     rw[X.out];exact P.out⟩
    case measure=>simp[intOf];omega
  have e:k=t.length:=om;subst e;go_wp2;go_ret;exact⟨ret_i (fidx_pre a3z t [] hn).symm,rfl⟩
theorem ae5(v:Value)(t:List (List Int))(w:World)(hv:RowsAt w v t):
  Calls prog 228 #[v,.func (.func 229) #[] #[]] w fun e w'=>e= .returned (.bool (t.any a3z))/\w=w':=by
 have E:=hid (fidx_any a3z t);go_enter func228,ntmps228;go_wp2_with (go_at_call 246;refine(afs _ _ _ hv).mono ?_;rintro e w' ⟨rfl,rfl⟩)
 go_ret;exact⟨by rw[<-E.out];rfl,rfl⟩
theorem anL(t:List (List Int)):vld t=(betw 1 t.length 4&& !t.any a3z):=by
 unfold vld betw;congr 2
 ·apply decide_eq_decide.2;omega
 ·apply decide_eq_decide.2;omega
 rw[List.not_any_eq_all_not];congr 1;funext l;simp[a3z]
theorem valid_any(v:Value)(t:List (List Int))(w:World)(hv:RowsAt w v t):
  Calls prog 194 #[v] w fun e w'=>e= .returned (.bool (vld t))/\w=w':=by
 have E:=hid (anL t);obtain⟨a,cap,rfl,hr⟩:=id hv;have hv':RowsAt w (.slice a t.length cap) t:=hv;clear hv;cases hb:betw 1 t.length 4 with
 |true=>
  have B:=hid hb;clear hb;go_enter func194,ntmps194;go_wp2_with (first|(go_at_call 201;refine(between_any _ _ _ _).mono ?_;rintro e w' ⟨rfl,rfl⟩;rw[B.out])|(go_at_call 228;refine(ae5 _ _ _ hv').mono ?_;rintro e w' ⟨rfl,rfl⟩))
  go_ret;exact⟨by rw[E.out,B.out];rfl,rfl⟩
 |false=>
  have B:=hid hb;clear hb;go_enter func194,ntmps194;go_wp2_with (first|(go_at_call 201;refine(between_any _ _ _ _).mono ?_;rintro e w' ⟨rfl,rfl⟩;rw[B.out]))
  go_ret;exact⟨by rw[E.out,B.out];rfl,rfl⟩
theorem Tryz.info64:(prog.info? 284).map (fun i=>(i.zero,i.size,i.bytes))=some (some (.slice none 0 0),1,24):=ot
def NewT(t:List (List Int))(w:World)(e:Ending)(w':World):Prop:=
 ∃tv,e= .returned (.tuple #[tv,.int .i64 0])/\RowsAt w' tv t/\Below w.heap.size w w'
theorem ah8(v:Value)(t:List (List Int))(w:World)(hv:RowsAt w v t)(hno:vld t=false):
  Calls prog 231 #[v] w fun e w'=>e= .returned (.tuple #[.slice none 0 0,.int .i64 10])/\w=w':=by
 have N:=hid hno;clear hno;go_enter func231,ntmps231;go_wp2_with (go_at_call 194;refine(valid_any _ _ _ hv).mono ?_;rintro e w' ⟨rfl,rfl⟩;rw[N.out])
 go_ret2;exact⟨rfl,rfl⟩
theorem a9b(v:Value)(t:List (List Int))(w:World)(hv:RowsAt w v t)(hyes:vld t=true):
  Calls prog 231 #[v] w (NewT t w):=by
 have T:=(vld_iff t).1 hyes
 have hlo:=T.lo;have hhi:=T.hi;obtain⟨i0,hi0,hz0,hz1,hz2⟩:=info_parts Tryz.info64;have N:=hid hyes;clear hyes T;obtain⟨a,cap,rfl,hl,hq⟩:=id hv;obtain⟨b,off,rfl,hc⟩:=hq om;clear hq;go_enter func231,ntmps231;go_wp2_with (go_at_call 194;refine(valid_any _ _ _ hv).mono ?_;rintro e w' ⟨rfl,rfl⟩;rw[N.out])
 clear hv
 go_loopw [4,12] (fun o i wr=>∃(k:Nat) (xs:List Value),k<=t.length/\i= .int .i64 k/\xs.length=k/\wr.ownsRow w.heap.size 284 1 o k xs/\(∀j,j<k->IntsAt w (xs.getD j undef) (t.getD j []))/\Below w.heap.size w wr)
  (fun _ i _=>t.length-(intOf i).toNat)
 case atStart=>exact⟨0,[],aot _,rfl,rfl,World.ownsRow_nil _ _ _ _,fun j hj=>om,aoi _ _⟩
 case round=>
  obtain⟨k,xs,hk,rfl,hxs,hown,hall,hbel⟩:=hrel;have hsz:=hbel.size;by_cases hlt:k<t.length
  ·obtain⟨x,hx0,hi⟩:=hc k hlt;generalize hlk:t.getD k []=lk at hi;have LK:=hid hlk;clear hlk;obtain⟨xa,xc,rfl,hxr⟩:=id hi;clear hxr;have hx:=keep_cell hbel hx0;have XL:=hid hxs;have HA:=hid hall;clear hc hx0 hxs hall;go_wp2_with (at_builtin;refine wpList_append_own _ rfl _ _ 251 rfl w.heap.size 284 i0 (.slice none 0 0) 1 24 underlying251 hi0 hz0 hz1 hz2 rfl ox _ _ _ rfl (hown.alloc _) ⟨wr.heap.size,0,none⟩ 1 1 [.slice xa lk.length xc] rfl rfl ?c1 ?c2 ?c3 ?c4 ?c5 ?_)
   case c1=>exact(a0h _ _ _)
   case c2=>intro u hu;simp at hu;subst hu;rfl
   case c3=>unfold maxLen;omega
   case c4=>omega
   case c5=>simp;omega
   intro v' w1 hown' hgrow _;have R:=below_append hbel hsz hown hgrow;clear hown hgrow hbel;go_wp2;go_roundw
   case rel=>exact⟨k+1,xs++[.slice xa lk.length xc],om,by go_num,by simp[XL.out],hown',fun j hj=>by
    rcases aoO.1 hj with h|rfl
    ·rw[a2n _ _ _ (by rw[XL.out];exact h)];exact HA.out j h
    have e:=a2o xs (.slice xa lk.length xc) undef;rw[XL.out]at e;rw[e,LK.out];exact hi,R⟩
   case measure=>simp[intOf];omega
  have e:k=t.length:=om;subst e;have XL:=hid hxs;have HA:=hid hall;clear hxs hall;go_wp2;go_ret2;exact⟨_,rfl,ae0 hown hl (fun i h=>(HA.out i h).below hbel),hbel⟩
def qe(t:List (List Int))(right:Bool):Int:=if vld t then (if right then 0 else 2)else 10
def qi(t:List (List Int))(right:Bool)(x:Int):Int:=if vld t&&right then x else 0
theorem ah9{t:List (List Int)}(h:vld t=false)(r:Bool):qe t r=10:=by simp[qe,h]
theorem aaP{t:List (List Int)}(h:vld t=true):qe t false=2:=by simp[qe,h]
theorem ae6{t:List (List Int)}(h:vld t=true):qe t true=0:=by simp[qe,h]
theorem aha{t:List (List Int)}(h:vld t=false)(r:Bool)(x:Int):qi t r x=0:=by simp[qi,h]
theorem aaQ{t:List (List Int)}(x:Int):qi t false x=0:=by simp[qi]
theorem ae7{t:List (List Int)}(h:vld t=true)(x:Int):qi t true x=x:=by simp[qi,h]
theorem a8s(v:Value)(t:List (List Int))(right:Bool)(g:Nat)(lb:Array Value)(x:Int)(w:World)(hv:RowsAt w v t)
  (eg:∀args w,(callFunc g args).run prog w= .ok (.enter g args) w)
  (hg:vld t=true->right=true->∀W tv,RowsAt W tv t->Below w.heap.size w W->Calls prog g (#[tv]++lb) W fun e W'=>e= .returned (.int .i64 x)/\Below W.heap.size W W'):
  Calls prog 196 #[v,.bool right,.func (.func g) #[] lb] w fun e w'=>e= .returned (.tuple #[.int .i64 (qi t right x),.int .i64 (qe t right)])/\Below w.heap.size w w':=by
 cases hy:vld t with
 |false=>
  rw[aha hy,ah9 hy];clear hg;go_enter func196,ntmps196;go_wp2_with (go_at_call 231;refine(ah8 _ _ _ hv hy).mono ?_;rintro e w' ⟨rfl,rfl⟩)
  go_ret2;exact⟨rfl,aoi _ _⟩
 | true=>
  cases right with
  |false=>
   rw[aaQ,aaP hy];clear hg;go_enter func196,ntmps196;go_wp2_with (go_at_call 231;refine(a9b _ _ _ hv hy).mono ?_;rintro e w' ⟨tv,rfl,hr,hb⟩)
   go_ret2;exact⟨rfl,hb⟩
  |true=>
   rw[ae7 hy,ae6 hy];have hg':=hg hy rfl;have HG:=hid hg';clear hg hg';go_enter func196,ntmps196;go_wp2_with (first|(go_at_call 231;refine(a9b _ _ _ hv hy).mono ?_;rintro e w1 ⟨tv,rfl,hr,hb⟩)|(go_at_fn g;refine(HG.out _ _ hr hb).mono ?_;rintro e w2 ⟨rfl,hb2⟩))
   go_ret2;exact⟨rfl,below_trans hb hb2⟩
theorem ajz{a b:Nat}(ha2:a<=27720)(hb2:b<=12):a / Nat.gcd a b * b=Nat.lcm a b/\a / Nat.gcd a b * b<=332640:=by
 have h1:a / Nat.gcd a b * b=Nat.lcm a b:=by
  rw[Nat.lcm,aq9 a b,Nat.mul_div_assoc _ (Nat.gcd_dvd_left a b),aq9]
 refine⟨h1,?_⟩;have h2:a / Nat.gcd a b<=27720:=aor (Nat.div_le_self _ _) ha2;exact aor (Nat.mul_le_mul h2 hb2) ox
theorem gcd_step(x y:Nat):Nat.gcd y (x % y)=Nat.gcd x y:=by
 rw[Nat.gcd_comm x y,Nat.gcd_rec y x,Nat.gcd_comm]
theorem emod_cast(p q:Nat):((p:Int) % (q:Int))=((p % q:Nat):Int):=(apt p q).symm
theorem ajA(p q:Nat):((p:Int) / (q:Int))=((p / q:Nat):Int):=(Int.natCast_ediv p q).symm
theorem ahb(a b:Nat)(w:World)(ha:1<=a)(hb:1<=b)(ha2:a<=27720)(hb2:b<=12):
  Calls prog 249 #[.int .i64 a,.int .i64 b] w fun e w'=>e= .returned (.int .i64 (Nat.lcm a b:Nat))/\Below w.heap.size w w':=by
 have L:=ajz ha2 hb2;have L1:=hid L.1;have L2:=hid L.2;clear L;go_enter func249,ntmps249;go_wp2;go_loopw [5,6] (fun x y wr=>∃p q:Nat,x= .int .i64 p/\y= .int .i64 q/\1<=p/\p<=27720/\q<=27720/\Hid (Nat.gcd p q=Nat.gcd a b)/\Below w.heap.size w wr) (fun _ y _=>(intOf y).toNat)
 case atStart=>exact⟨a,b,rfl,rfl,ha,ha2,om,rfl,aoi _ _⟩
 case round=>
  obtain⟨p,q,rfl,rfl,hp,hp2,hq2,G,hbel⟩:=hrel;by_cases hq:0<q
  ·have hm:=Nat.mod_lt p hq;go_wp2;go_region
   all_goals go_wp2
   all_goals go_roundw
   case rel=>exact⟨q,p % q,rfl,by rw[emod_cast],om,om,om,(gcd_step p q).trans G.out,hbel.drew⟩
   case measure=>rw[emod_cast];simp only[intOf];omega
  have e:q=0:=om;subst e;have G':=G.out;rw[Nat.gcd_zero_right]at G';clear G;have GH:=hid G';clear G';go_wp2;go_ret;refine⟨ret_i ?_,hbel⟩;have h2:=L2.out;have h3:=Nat.div_le_self a (a.gcd b)
  have h4:(-9223372036854775808:Int)<=((a / a.gcd b:Nat):Int)/\((a / a.gcd b:Nat):Int)<=9223372036854775807:=by
   generalize a / a.gcd b=z at *;omega
  rw[GH.out,ajA,IntWalk.wrap64_in ((a / a.gcd b:Nat):Int) h4,<-Int.natCast_mul,L1.out];apply IntWalk.wrap64_in;rw[L1.out]at h2;omega
def a4r(t:List (List Int))(k:Nat):Nat:=rnd (t.take k)
theorem aaR(t:List (List Int))(k:Nat)(hk:k<t.length):a4r t (k+1)=Nat.lcm (a4r t k) (t.getD k []).length:=by
 unfold a4r rnd;rw[aon hk,apl,aoh,aoj hk];rfl
theorem a9H{t:List (List Int)}(h:Vld t)(k:Nat):1<=a4r t k/\a4r t k<=27720:=by
 have hm:∀l∈t.take k,1<=l.length/\l.length<=12:=fun l hl=>⟨(h.wave l (ap2 hl)).1,(h.wave l (ap2 hl)).2.1⟩
 exact⟨a5K _ 1 om (fun l hl=>(hm l hl).1),Nat.le_of_dvd om (a4G _ 1 27720 (Nat.one_dvd _) (fun l hl=>ae1 (hm l hl).1 (hm l hl).2))⟩
theorem acq(t:List (List Int)):a4r t t.length=rnd t:=by unfold a4r;rw[aoK]
theorem a8t(v:Value)(t:List (List Int))(w:World)(hv:RowsAt w v t)(ht:Vld t):
  Calls prog 232 #[v] w fun e w'=>e= .returned (.int .i64 (rnd t:Nat))/\Below w.heap.size w w':=by
 obtain⟨a,cap,rfl,hl,hq⟩:=id hv;have hlo:=ht.lo;have hhi:=ht.hi;obtain⟨b,off,rfl,hc⟩:=hq om;clear hq hv;go_enter func232,ntmps232;go_wp2;go_loopw [3,8] (fun s i wr=>∃k:Nat,k<=t.length/\i= .int .i64 k/\s= .int .i64 (a4r t k:Nat)/\Below w.heap.size w wr) (fun _ i _=>t.length-(intOf i).toNat)
 case atStart=>exact⟨0,aot _,rfl,rfl,aoi _ _⟩
 case round=>
  obtain⟨k,hk,rfl,rfl,hbel⟩:=hrel;have hbd:=a9H ht k;by_cases hlt:k<t.length
  ·obtain⟨x,hx0,hi⟩:=hc k hlt;have hw:=ht.wave _ (a3y hlt);have hw1:=hw.1;have hw2:=hw.2.1;have E:=hid (aaR t k hlt);have hx:=keep_cell hbel hx0;generalize t.getD k []=lk at *;generalize a4r t k=r at *;obtain⟨xa,xc,rfl,hxr⟩:=id hi;clear hxr hi hw hx0 hc;go_wp2_with (go_at_call 249;refine(ahb _ _ _ hbd.1 hw1 hbd.2 hw2).mono ?_;rintro e w1 ⟨rfl,hb1⟩)
   go_roundw
   case rel=>exact⟨k+1,om,by go_num,by rw[E.out],hbel.trans (hb1.mono hbel.size)⟩
   case measure=>simp[intOf];omega
  have e:k=t.length:=om;subst e;go_wp2;go_ret;exact⟨ret_i (by rw[acq]),hbel⟩
theorem a4H{t:List (List Int)}(h:Vld t)(a:Int)(n:Nat): -(400 * (n:Int))<=acc (spd t) a n/\acc (spd t) a n<=400 * n:=acc_bound _ 400 h.bd a n
theorem ae8(v:Value)(t:List (List Int))(a:Int)(n:Nat)(w:World)(hv:RowsAt w v t)(ht:Vld t)(ha1: -10000000<=a)(ha2:a<=10000000)(hn:n<=10000000):
  Calls prog 237 #[v,.int .i64 a,.int .i64 n] w fun e w'=>e= .returned (.int .i64 (acc (spd t) a n))/\w=w':=by
 go_enter func237,ntmps237;go_wp2;go_loop [7,10] (fun s i=>∃k:Nat,k<=n/\i= .int .i64 k/\s= .int .i64 (acc (spd t) a k)) (fun _ i=>n-(intOf i).toNat)
 case atStart=>exact⟨0,aot _,rfl,rfl⟩
 case round=>
  obtain⟨k,hk,rfl,rfl⟩:=hrel;by_cases hlt:k<n
  ·have b1:=a4H ht a k;have b2:=ht.bd (a+k);have E:=hid (show acc (spd t) a (k+1)=acc (spd t) a k+spd t (a+k)from rfl);generalize acc (spd t) a k=s at *;go_wp2_with (go_at_call 250;refine(a5b _ _ _ _ hv ht).mono ?_;rintro e w' ⟨rfl,rfl⟩)
   go_round
   case rel=>exact⟨k+1,om,by go_num,by rw[E.out]⟩
   case measure=>simp[intOf];omega
  have e:k=n:=om;subst e;go_wp2;go_ret;exact⟨rfl,rfl⟩
theorem a6t{t:List (List Int)}(a:Int)(n:Nat):((n / rnd t:Nat):Int) * acc (spd t) 0 (rnd t)+acc (spd t) a (n % rnd t)=acc (spd t) a n:=
 ajx (ag1 t) a n
theorem aaS{t:List (List Int)}(h:Vld t)(n:Nat): -(400 * (n:Int))<=((n / rnd t:Nat):Int) * acc (spd t) 0 (rnd t)/\((n / rnd t:Nat):Int) * acc (spd t) 0 (rnd t)<=400 * n:=by
 have h1:=a6t (t:=t) 0 (n-n % rnd t);have h2:=a4H h 0 (n-n % rnd t);have hr:=h.rnd_pos
 have h3:(n-n % rnd t) / rnd t=n / rnd t:=by
  have:=Nat.div_add_mod n (rnd t);have e:n-n % rnd t=rnd t * (n / rnd t):=om;rw[e,Nat.mul_div_cancel_left _ hr]
 have h4:(n-n % rnd t) % rnd t=0:=by
  have:=Nat.div_add_mod n (rnd t);have e:n-n % rnd t=rnd t * (n / rnd t):=om;rw[e,Nat.mul_mod_right]
 rw[h3,h4]at h1;simp only[acc,Int.add_zero]at h1;rw[h1];omega
theorem ajB(v:Value)(t:List (List Int))(a:Int)(n:Nat)(w:World)(hv:RowsAt w v t)(ht:Vld t)(ha1: -2000000<=a)(ha2:a<=2000000)(hn:n<=2000000):
  Calls prog 203 #[v,.int .i64 a,.int .i64 n] w fun e w'=>e= .returned (.int .i64 (acc (spd t) a n))/\Below w.heap.size w w':=by
 have P:=aaS ht n;have E:=hid (a6t (t:=t) a n);have hr:=ht.rnd_pos;have hr2:=ht.rnd_le;have hm:=Nat.mod_lt n hr;have hd:=Nat.div_le_self n (rnd t);have b2:=a4H ht a (n % rnd t);go_enter func203,ntmps203;go_wp2_with (go_at_call 232;refine(a8t _ _ _ hv ht).mono ?_;rintro e w1 ⟨rfl,hb1⟩)
 have hv1:=hv.below hb1;have S1:=fun nq=>Calls.quiet_of_same (n:=nq) ((ae8 v t 0 (rnd t) _ (hv1.drewN nq) ht om om om).mono fun _ _ h=>⟨h.1,h.2.symm⟩);have S2:=fun nq=>Calls.quiet_of_same (n:=nq) ((ae8 v t a (n % rnd t) _ (hv1.drewN nq) ht om om om).mono fun _ _ h=>⟨h.1,h.2.symm⟩);rw[apt]at S2;have H1:=hid S1;have H2:=hid S2;have E':=E.out;rw[Int.natCast_ediv]at E' P;have E2:=hid E';have hdv:=IntWalk.tdiv_le n (rnd t) om om;have hne:((rnd t:Int)==0)=false:=by simp;omega
 clear S1 S2 hv hv1 E E' hd hm;generalize acc (spd t) 0 (rnd t)=A0 at *;generalize acc (spd t) a (n % rnd t)=A1 at *;refine wp_region_quiet_lit ot ot ?_;repeat (any_goals (first|go_big_quiet_step ((go_at_call 237;first|(with_reducible exact H1.out _)|(with_reducible exact H2.out _)))|quiet_step (fail)))
 all_goals (refine wpQuiet_nil ?_;intro _ hw';obtain⟨nq,hw''⟩:=hw';subst hw'')
 all_goals go_wp2
 go_ret;exact⟨ret_i (by rw[E2.out];have:=a4H ht a n;exact IntWalk.wrap64_in _ om),belowN0 hb1 _⟩
theorem alk{f:Int->Int}{r b k:Nat}(hk:k<r)(h:¬f k=f ((k:Int)+b)):a42 f r b=false:=by
 unfold a42;rw[List.all_eq_false];exact⟨k,List.mem_range.2 hk,by simpa using h⟩
theorem alm{f:Int->Int}{r b:Nat}(h:∀k:Nat,k<r->f k=f ((k:Int)+b)):a42 f r b=true:=by
 unfold a42;rw[ap6];exact fun k hk=>by simpa using h k (List.mem_range.1 hk)
theorem a9c(v:Value)(t:List (List Int))(b:Nat)(w:World)(hv:RowsAt w v t)(ht:Vld t)(hb:b<=100000):
  Calls prog 233 #[v,.int .i64 b] w fun e w'=>e= .returned (.bool (a42 (spd t) (rnd t) b))/\Below w.heap.size w w':=by
 have hr:=ht.rnd_pos;have hr2:=ht.rnd_le;go_enter func233,ntmps233;go_wp2_with (go_at_call 232;refine(a8t _ _ _ hv ht).mono ?_;rintro e w1 ⟨rfl,hb1⟩)
 have hv1:=hv.below hb1;clear hv;go_loop [8] (fun i=>∃k:Nat,k<=rnd t/\i= .int .i64 k/\Hid (∀j:Nat,j<k->spd t j=spd t ((j:Int)+b))) (fun i=>rnd t-(intOf i).toNat)
 case atStart=>exact⟨0,aot _,rfl,fun j hj=>om⟩
 case round=>
  obtain⟨k,hk,rfl,H⟩:=hrel;by_cases hlt:k<rnd t
  ·by_cases he:spd t k=spd t ((k:Int)+b)
   ·have E:=hid he;have hd:(spd t k != spd t ((k:Int)+b))=false:=by simpa using he
    clear he;go_wp2_with (first|(go_at_call_of 250 (Value.int .i64 (k:Int));refine(a5b _ _ _ _ hv1 ht).mono ?_;rintro e w' ⟨rfl,rfl⟩)|(go_at_call_of 250 (Value.int .i64 ((k:Int)+b));refine(a5b _ _ _ _ hv1 ht).mono ?_;rintro e w' ⟨rfl,rfl⟩))
    go_round
    case rel=>exact⟨k+1,om,by go_num,fun j hj=>by
     rcases aoO.1 hj with h|rfl
     ·exact H.out j h
     exact E.out⟩
    case measure=>simp[intOf];omega
   have E:=hid (alk hlt he);have hd:(spd t k != spd t ((k:Int)+b))=true:=by simpa using he
   clear he;go_wp2_with (first|(go_at_call_of 250 (Value.int .i64 (k:Int));refine(a5b _ _ _ _ hv1 ht).mono ?_;rintro e w' ⟨rfl,rfl⟩)|(go_at_call_of 250 (Value.int .i64 ((k:Int)+b));refine(a5b _ _ _ _ hv1 ht).mono ?_;rintro e w' ⟨rfl,rfl⟩))
   go_ret;exact⟨by rw[E.out];rfl,hb1⟩
  have e:k=rnd t:=om;have H2:=hid (alm (b:=b) (f:=spd t) (r:=rnd t) (fun j hj=>H.out j om));subst e;go_wp2;go_ret;exact⟨by rw[H2.out];rfl,hb1⟩
theorem aaT{f:Int->Int}{r:Nat}(b:Nat):btFrom f r (r-r) b=r:=by rw[aq8];rfl
theorem aaU{f:Int->Int}{r b:Nat}(hb:b<r)(h:r % b=0/\a42 f r b=true):btFrom f r (r-b) b=b:=by
 rw[show r-b=(r-(b+1))+1 from by omega];unfold btFrom;rw[if_pos h]
theorem a4S{f:Int->Int}{r b:Nat}(hb:b<r)(h:¬(r % b=0/\a42 f r b=true)):btFrom f r (r-b) b=btFrom f r (r-(b+1)) (b+1):=by
 rw[show r-b=(r-(b+1))+1 from by omega];conv=>lhs;unfold btFrom
 rw[if_neg h]
theorem aln(v:Value)(t:List (List Int))(w:World)(hv:RowsAt w v t)(ht:Vld t):
  Calls prog 197 #[v] w fun e w'=>e= .returned (.int .i64 (bt (spd t) (rnd t):Nat))/\Below w.heap.size w w':=by
 have hr:=ht.rnd_pos;have hr2:=ht.rnd_le;go_enter func197,ntmps197;go_wp2_with (go_at_call 232;refine(a8t _ _ _ hv ht).mono ?_;rintro e w1 ⟨rfl,hb1⟩)
 go_loopw [4] (fun i wr=>∃b:Nat,1<=b/\b<=rnd t/\i= .int .i64 b/\Hid (btFrom (spd t) (rnd t) (rnd t-b) b=bt (spd t) (rnd t))/\Below w.heap.size w wr) (fun i _=>rnd t-(intOf i).toNat)
 case atStart=>exact⟨1,aof _,hr,rfl,rfl,hb1⟩
 case round=>
  obtain⟨b,hb0,hb,rfl,H,hbel⟩:=hrel;clear hb1;by_cases hlt:b<rnd t
  ·have hvr:=hv.below hbel;clear hv;by_cases hd:rnd t % b=0
   ·have hD:((rnd t:Int) % (b:Int)==0)=true:=by rw[beq_iff_eq,<-apt,hd];rfl
    cases hp:a42 (spd t) (rnd t) b with
    |true=>
     have E:=hid (aaU hlt ⟨hd,hp⟩);have P:=hid hp;clear hp hd;go_wp2_with (go_at_call 233;refine(a9c _ _ _ _ hvr ht om).mono ?_;rintro e w2 ⟨rfl,hb2⟩;rw[P.out])
     go_ret;exact⟨ret_i (by rw[<-H.out,E.out]),hbel.trans (hb2.mono hbel.size)⟩
    |false=>
     have E:=hid (a4S (f:=spd t) hlt (fun h=>by rw[hp]at h;exact absurd h.2 oz));have P:=hid hp;clear hp hd;go_wp2_with (go_at_call 233;refine(a9c _ _ _ _ hvr ht om).mono ?_;rintro e w2 ⟨rfl,hb2⟩;rw[P.out])
     go_roundw
     case rel=>exact⟨b+1,om,om,by go_num,by rw[<-E.out];exact H.out,hbel.trans (hb2.mono hbel.size)⟩
     case measure=>simp[intOf];omega
   have hD:((rnd t:Int) % (b:Int)==0)=false:=by rw[beq_eq_false_iff_ne,<-apt];omega
   have E:=hid (a4S (f:=spd t) hlt (fun h=>hd h.1));clear hd;go_wp2;go_roundw
   case rel=>exact⟨b+1,om,om,by go_num,by rw[<-E.out];exact H.out,hbel⟩
   case measure=>simp[intOf];omega
  have e:b=rnd t:=om;have H':=H.out;rw[e,aaT]at H';have HH:=hid H';clear H' H;go_wp2;go_ret;exact⟨ret_i (by rw[<-HH.out]),hbel⟩
def hourB(n:Int):Bool:=betw (-1000000) n 1000000
def spanB(n:Int):Bool:=betw 0 n 1000000
theorem acr(n:Int):hourB n=true↔ -1000000<=n/\n<=1000000:=betw_iff _ _ _
theorem spanB_iff(n:Int):spanB n=true↔0<=n/\n<=1000000:=betw_iff _ _ _
theorem aaV(n:Int)(w:World):
  Calls prog 200 #[.int .i64 n] w fun e w'=>e= .returned (.bool (hourB n))/\w=w':=by
 unfold hourB;go_enter func200,ntmps200;go_wp2_with (go_at_call 201;refine(between_any _ _ _ _).mono ?_;rintro e w' ⟨rfl,rfl⟩)
 go_ret;exact⟨rfl,rfl⟩
theorem ahc(v:Value)(t:List (List Int))(h n:Int)(B C:Nat)(w:World)(hv:RowsAt w v t)(ht:Vld t)(hcell:w.cell? ⟨B,0,none⟩=some (.int .i64 h))(hcell2:w.cell? ⟨C,0,none⟩=some (.int .i64 n))
  (hh:hourB h=true)(hn:spanB n=true):
  Calls prog 202 #[v,.pointer (some ⟨B,0,none⟩),.pointer (some ⟨C,0,none⟩)] w fun e w'=>e= .returned (.int .i64 (acc (spd t) h n.toNat))/\Below w.heap.size w w':=by
 have h1:=(acr h).1 hh
 have h2:=(spanB_iff n).1 hn
 obtain⟨n,rfl⟩:=aoH h2.1;have h3:h<=1000000/\ -1000000<=h:=⟨h1.2,h1.1⟩
 clear hh hn h1;go_enter func202,ntmps202;go_wp2_with (go_at_call 203;refine(ajB _ _ _ _ _ hv ht om om om).mono ?_;rintro e w1 ⟨rfl,hb1⟩)
 go_ret;exact⟨rfl,hb1⟩
theorem tDrift_any(v:Value)(t:List (List Int))(h n:Int)(w:World)(hv:RowsAt w v t):
  Calls prog 152 #[v,.int .i64 h,.int .i64 n] w fun e w'=>e= .returned (.tuple #[.int .i64 (qi t (hourB h&&spanB n) (acc (spd t) h n.toNat)),.int .i64 (qe t (hourB h&&spanB n))])/\Below w.heap.size w w':=by
 have hal:Below w.heap.size w ((w.alloc (.cells #[.int .i64 h] 3)).alloc (.cells #[.int .i64 n] 3)):=((aoi _ w).alloc (aof _) _).alloc oz _
 have hv1:=hv.below hal;have hc1:((w.alloc (.cells #[.int .i64 h] 3)).alloc (.cells #[.int .i64 n] 3)).cell? ⟨w.heap.size,0,none⟩=some (.int .i64 h):=keep_cell ((aoi _ _).alloc (aof _) _) oz
 have hc2:((w.alloc (.cells #[.int .i64 h] 3)).alloc (.cells #[.int .i64 n] 3)).cell? ⟨w.heap.size+1,0,none⟩=some (.int .i64 n):=by
  have h1:(w.alloc (.cells #[.int .i64 h] 3)).heap.size=w.heap.size+1:=by simp
  rw[<-h1];simp
 have HA:=a8s v t (hourB h&&spanB n) 202 #[.pointer (some ⟨w.heap.size,0,none⟩),.pointer (some ⟨w.heap.size+1,0,none⟩)] (acc (spd t) h n.toNat) _ hv1 (enters_of func202 ot rfl)
  (fun hy hr W tv hr' hb=>ahc tv t h n w.heap.size (w.heap.size+1) W hr' ((vld_iff t).1 hy) (keep_cell hb hc1) (keep_cell hb hc2) (by simp at hr;exact hr.1) (by simp at hr;exact hr.2))
 have H:=hid HA;clear HA hc1 hc2 hv1 hv;unfold spanB at *;cases hh:hourB h with
 |true=>
  rw[hh]at H;have HH:=hid hh;clear hh;go_enter func152,ntmps152;go_wp2_with (first|(go_at_call 200;refine(aaV _ _).mono ?_;rintro e w' ⟨rfl,rfl⟩;rw[HH.out])|(go_at_call 201;refine(between_any _ _ _ _).mono ?_;rintro e w' ⟨rfl,rfl⟩)|(go_at_call 196;refine H.out.mono ?_;rintro e w1 ⟨rfl,hb1⟩))
  go_ret2;exact⟨rfl,below_trans hal hb1⟩
 |false=>
  rw[hh]at H;have HH:=hid hh;clear hh;go_enter func152,ntmps152;go_wp2_with (first|(go_at_call 200;refine(aaV _ _).mono ?_;rintro e w' ⟨rfl,rfl⟩;rw[HH.out])|(go_at_call 201;refine(between_any _ _ _ _).mono ?_;rintro e w' ⟨rfl,rfl⟩)|(go_at_call 196;refine H.out.mono ?_;rintro e w1 ⟨rfl,hb1⟩))
  go_ret2;exact⟨rfl,below_trans hal hb1⟩
theorem tBeat_any(v:Value)(t:List (List Int))(w:World)(hv:RowsAt w v t):
  Calls prog 150 #[v] w fun e w'=>e= .returned (.tuple #[.int .i64 (qi t true (bt (spd t) (rnd t):Nat)),.int .i64 (qe t true)])/\Below w.heap.size w w':=by
 have HA:=a8s v t true 197 #[] (bt (spd t) (rnd t):Nat) _ hv (enters_of func197 ot rfl)
  (fun hy _ W tv hr hb=>aln tv t W hr ((vld_iff t).1 hy))
 have H:=hid HA;clear HA hv;go_enter func150,ntmps150;go_wp2_with (go_at_call 196;refine H.out.mono ?_;rintro e w1 ⟨rfl,hb1⟩)
 go_ret2;exact⟨rfl,hb1⟩
theorem a4T(n:Int)(w:World):
  Calls prog 139 #[.int .i64 n] w fun e w'=>e= .returned (.bool (hourB n))/\w=w':=by
 have E:hourB n=(decide (-1000000<=n)&&decide (n<=1000000)):=rfl;by_cases h1: -1000000<=n
 ·by_cases h2:n<=1000000
  ·rw[E,decide_eq_true h1,decide_eq_true h2];clear E;go_enter func139,ntmps139;go_wp2;go_ret;exact⟨rfl,rfl⟩
  rw[E,decide_eq_true h1,decide_eq_false h2];clear E;go_enter func139,ntmps139;go_wp2;go_ret;exact⟨rfl,rfl⟩
 rw[E,decide_eq_false h1];clear E;go_enter func139,ntmps139;go_wp2;go_ret;exact⟨rfl,rfl⟩
theorem amW{t:List (List Int)}{k:Nat}(hk:k<t.length)(h:¬(1<=(t.getD k []).length/\(t.getD k []).length<=12/\∀n∈t.getD k [], -100<=n/\n<=100)):vld t=false:=by
 cases hv:vld t with
 |false=>rfl
 |true=>exact absurd (((vld_iff t).1 hv).wave _ (a3y hk)) h
theorem alo{t:List (List Int)}(h:∀j,j<t.length->a43 (t.getD j [])=true):vld t=(decide (1<=t.length)&&decide (t.length<=4)):=by
 unfold vld
 rw[ap6.2 (fun x hx=>by
  obtain⟨i,hi,rfl⟩:=apc hx;have:=h i hi;rwa[aoh,aoj hi]at this),Bool.and_true]
theorem getD_mem'{l:List Int}{k:Nat}(hk:k<l.length):l.getD k 0∈l:=by
 rw[aoh,aoj hk];simp
theorem amX{l:List Int}(h1:1<=l.length)(h2:l.length<=12)(h:∀j,j<l.length-> -100<=l.getD j 0/\l.getD j 0<=100):a43 l=true:=
 (a2p l).2 ⟨h1,h2,fun n hn=>by
  obtain⟨i,hi,rfl⟩:=apc hn;have:=h i hi;rwa[aoh,aoj hi]at this⟩
theorem rValid_any (v:Value) (t:List (List Int)) (w:World) (hv:RowsAt w v t):
  Calls prog 135 #[v] w fun e w'=>e= .returned (.bool (vld t))/\w=w':=by
 obtain⟨a,cap,rfl,hl,hq⟩:=hv;go_enter func135,ntmps135;go_wp2;go_loop [9] (fun i=>∃k:Nat,k<=t.length/\i= .int .i64 k/\Hid (∀j,j<k->a43 (t.getD j [])=true)) (fun i=>t.length-(intOf i).toNat)
 case atStart=>exact⟨0,aot _,rfl,fun j hj=>om⟩
 case round=>
  obtain⟨k,hk,rfl,H⟩:=hrel;by_cases hlt:k<t.length
  ·obtain⟨b,off,rfl,hc⟩:=hq om;obtain⟨x,hx,hi⟩:=hc k hlt;clear hc hq;have B:=hid (fun h=>amW hlt h);generalize hlk:t.getD k []=lk at *;have LK:=hid hlk;clear hlk;obtain⟨ra,rc,rfl,hrl,hrq⟩:=hi;by_cases h1:1<=lk.length
   ·by_cases h2:lk.length<=12
    ·go_wp2;go_loop [23] (fun i=>∃m:Nat,m<=lk.length/\i= .int .i64 m/\Hid (∀j,j<m-> -100<=lk.getD j 0/\lk.getD j 0<=100)) (fun i=>lk.length-(intOf i).toNat)
     case atStart=>exact⟨0,aot _,rfl,fun j hj=>om⟩
     case round=>
      obtain⟨m,hm,rfl,HM⟩:=hrel;by_cases hlt2:m<lk.length
      ·obtain⟨rb,ro,rfl,hrc⟩:=hrq om;have hcell:=hrc m hlt2;clear hrc hrq;have MM:=hid (getD_mem' hlt2);generalize hy:lk.getD m 0=y at *;have Y:=hid hy;clear hy;by_cases h3:y< -100
       ·go_wp2;go_ret;exact⟨by rw[B.out (fun h=>by have:=h.2.2 y MM.out;omega)];rfl,rfl⟩
       by_cases h4:100<y
       ·go_wp2;go_ret;exact⟨by rw[B.out (fun h=>by have:=h.2.2 y MM.out;omega)];rfl,rfl⟩
       go_wp2;go_round
       case rel=>exact⟨m+1,om,by go_num,fun j hj=>by
        rcases aoO.1 hj with h|rfl
        ·exact HM.out j h
        rw[Y.out];omega⟩
       case measure=>simp[intOf];omega
      have e:m=lk.length:=om;subst e;have W:=hid (amX h1 h2 HM.out);go_wp2;go_round
      case rel=>exact⟨k+1,om,by go_num,fun j hj=>by
       rcases aoO.1 hj with h|rfl
       ·exact H.out j h
       rw[LK.out];exact W.out⟩
      case measure=>simp[intOf];omega
    go_wp2;go_ret;exact⟨by rw[B.out (fun h=>h2 h.2.1)];rfl,rfl⟩
   go_wp2;go_ret;exact⟨by rw[B.out (fun h=>h1 h.1)];rfl,rfl⟩
  have e:k=t.length:=om;subst e;have G:=hid (alo H.out);by_cases h1:1<=t.length
  ·by_cases h2:t.length<=4
   ·rw[decide_eq_true h1,decide_eq_true h2]at G;go_wp2;go_ret;exact⟨ret_b (by rw[G.out];first|rfl|(simp;omega)),rfl⟩
   rw[decide_eq_true h1,decide_eq_false h2]at G;go_wp2;go_ret;exact⟨ret_b (by rw[G.out];first|rfl|(simp;omega)),rfl⟩
  rw[decide_eq_false h1]at G;go_wp2;go_ret;exact⟨ret_b (by rw[G.out];first|rfl|(simp;omega)),rfl⟩
theorem ajC(h:Int)(n:Nat)(h0:0<n):(h.tmod n+n).tmod n=h % n:=by
 have h1:=a6E h n h0;rw[aq2 om];by_cases hn:h.tmod n<0
 ·rw[ae2 h n h0 hn];exact Int.emod_eq_of_lt om om
 rw[aco h n h0 om,Int.add_emod_right];exact Int.emod_eq_of_lt om om
theorem ahd(h:Int)(n:Nat)(w:World)(h0:0<n)(hn:n<=1000000):
  Calls prog 244 #[.int .i64 h,.int .i64 n] w fun e w'=>e= .returned (.int .i64 (h % (n:Int)))/\w=w':=by
 have hb:=a6E h n h0;have E:=ajC h n h0;rw[aq2 om]at E;have EE:=hid E;clear E;go_enter func244,ntmps244;go_wp2;go_ret;exact⟨ret_i EE.out,rfl⟩
theorem aaW(v:Value)(t:List (List Int))(h:Int)(w:World)(hv:RowsAt w v t)(ht:Vld t):
  Calls prog 223 #[v,.int .i64 h] w fun e w'=>e= .returned (.int .i64 (spd t h))/\w=w':=by
 obtain⟨a,cap,rfl,hl,hq⟩:=hv;have hlo:=ht.lo;have hhi:=ht.hi;obtain⟨b,off,rfl,hc⟩:=hq om;clear hq;go_enter func223,ntmps223;go_wp2;go_loop [5,10] (fun s i=>∃k:Nat,k<=t.length/\i= .int .i64 k/\s= .int .i64 (spd (t.take k) h)) (fun _ i=>t.length-(intOf i).toNat)
 case atStart=>exact⟨0,aot _,rfl,rfl⟩
 case round=>
  obtain⟨k,hk,rfl,rfl⟩:=hrel;by_cases hlt:k<t.length
  ·obtain⟨x,hx,hi⟩:=hc k hlt;have hw:=ht.wave _ (a3y hlt);have E:=hid (ae3 t k h hlt);have b1:=a6a (t.take k) (fun l hl=>(ht.wave l (ap2 hl)).2.2) h;have b2:=a8q hw.2.2 h;have hlen:(t.take k).length<=k:=List.length_take_le _ _
   have hw1:=hw.1;have hw2:=hw.2.1;generalize t.getD k []=lk at *;generalize spd (t.take k) h=s at *;obtain⟨ra,rc,rfl,hrl,hrq⟩:=hi;obtain⟨rb,ro,rfl,hrc⟩:=hrq om;have hm1:=apZ h (show (lk.length:Int)≠0 by omega);have hm2:=apW h (show (0:Int)<lk.length by omega);have hcell:=hrc (h % (lk.length:Int)).toNat om
   have WE:=hid (show wat lk h=lk.getD (h % (lk.length:Int)).toNat 0 from rfl);rw[<-WE.out]at hcell;clear hc hw hrq hrc WE;go_wp2_with (go_at_call 244;refine(ahd _ _ _ om om).mono ?_;rintro e w' ⟨rfl,rfl⟩)
   go_round
   case rel=>exact⟨k+1,om,by go_num,by rw[E.out]⟩
   case measure=>simp[intOf];omega
  have e:k=t.length:=om;subst e;go_wp2;go_ret;exact⟨ret_i oz,rfl⟩
theorem rdrift_any(v:Value)(t:List (List Int))(a:Int)(n:Nat)(w:World)(hv:RowsAt w v t)(ht:Vld t)(ha1: -10000000<=a)(ha2:a<=10000000)(hn:n<=10000000):
  Calls prog 183 #[v,.int .i64 a,.int .i64 n] w fun e w'=>e= .returned (.int .i64 (acc (spd t) a n))/\w=w':=by
 go_enter func183,ntmps183;go_wp2;go_loop [7,10] (fun s i=>∃k:Nat,k<=n/\i= .int .i64 k/\s= .int .i64 (acc (spd t) a k)) (fun _ i=>n-(intOf i).toNat)
 case atStart=>exact⟨0,aot _,rfl,rfl⟩
 case round=>
  obtain⟨k,hk,rfl,rfl⟩:=hrel;by_cases hlt:k<n
  ·have b1:=a4H ht a k;have b2:=ht.bd (a+k);have E:=hid (show acc (spd t) a (k+1)=acc (spd t) a k+spd t (a+k)from rfl);generalize acc (spd t) a k=s at *;go_wp2_with (go_at_call 223;refine(aaW _ _ _ _ hv ht).mono ?_;rintro e w' ⟨rfl,rfl⟩)
   go_round
   case rel=>exact⟨k+1,om,by go_num,by rw[E.out]⟩
   case measure=>simp[intOf];omega
  have e:k=n:=om;subst e;go_wp2;go_ret;exact⟨rfl,rfl⟩
theorem ahe{n l m q:Nat}(hm:m=q * n)(hle:m<=Nat.lcm n l)(hmod:m % l≠0):m+n<=Nat.lcm n l:=by
 have h1:n ∣ Nat.lcm n l:=Nat.dvd_lcm_left n l;obtain⟨c,hc⟩:=h1;have hne:m≠Nat.lcm n l:=fun e=>hmod (by rw[e];exact Nat.mod_eq_zero_of_dvd (Nat.dvd_lcm_right n l));have hlt:q * n<c * n:=by rw[<-hm,aq9 c n,<-hc];omega
 have hq:q<c:=Nat.lt_of_mul_lt_mul_right hlt;have:(q+1) * n<=c * n:=apC n hq;rw[hc,aq9 n c,hm];rw[aq7]at this;omega
theorem ahf{n l m q:Nat}(hm:m=q * n)(hm1:1<=q)(hn:1<=n)(hle:m<=Nat.lcm n l)(hmod:m % l=0):m=Nat.lcm n l:=by
 have h1:Nat.lcm n l ∣ m:=Nat.lcm_dvd (by rw[hm];exact Nat.dvd_mul_left n q) (Nat.dvd_of_mod_eq_zero hmod);have h2:0<m:=by rw[hm];exact Nat.mul_pos hm1 hn
 exact Nat.le_antisymm hle (Nat.le_of_dvd h2 h1)
theorem aaX(v:Value)(t:List (List Int))(w:World)(hv:RowsAt w v t)(ht:Vld t):
  Calls prog 178 #[v] w fun e w'=>e= .returned (.int .i64 (rnd t:Nat))/\w=w':=by
 obtain⟨a,cap,rfl,hl,hq⟩:=id hv;have hlo:=ht.lo;have hhi:=ht.hi;obtain⟨b,off,rfl,hc⟩:=hq om;clear hq hv;go_enter func178,ntmps178;go_wp2;go_loop [3,9] (fun s i=>∃k:Nat,k<=t.length/\i= .int .i64 k/\s= .int .i64 (a4r t k:Nat)) (fun _ i=>t.length-(intOf i).toNat)
 case atStart=>exact⟨0,aot _,rfl,rfl⟩
 case round=>
  obtain⟨k,hk,rfl,rfl⟩:=hrel;have hbd:=a9H ht k;by_cases hlt:k<t.length
  ·obtain⟨x,hx,hi⟩:=hc k hlt;have hw:=ht.wave _ (a3y hlt);have hw1:=hw.1;have hw2:=hw.2.1;have hbd2:=(a9H ht (k+1)).2
   have E':=aaR t k hlt;rw[E']at hbd2;have E:=hid E';clear E';generalize t.getD k []=lk at *;generalize a4r t k=r at *;obtain⟨xa,xc,rfl,hxr⟩:=id hi;clear hxr hi hw hc;have hr0:=Nat.le_of_dvd (Nat.lcm_pos hbd.1 hw1) (Nat.dvd_lcm_left r lk.length);generalize hL:Nat.lcm r lk.length=L at *;have HL:=hid hL;clear hL;go_wp2;go_loop [6] (fun i=>∃m q:Nat,i= .int .i64 m/\m<=L/\Hid (m=q * r)/\1<=q) (fun i=>L-(intOf i).toNat)
   case atStart=>exact⟨r,1,rfl,hr0,(Nat.one_mul r).symm,aof _⟩
   case round=>
    obtain⟨m,q,rfl,hmL,Q,hq⟩:=hrel;have hlen0:((lk.length:Int)==0)=false:=beq_eq_false_iff_ne.2 om;by_cases hd:m % lk.length=0
    ·have D:((m:Int) % (lk.length:Int) != 0)=false:=by rw[<-apt,hd];rfl
     have EQ:=hid (ahf Q.out hq hbd.1 (by rw[HL.out];exact hmL) hd);clear hd;go_wp2;go_round
     case rel=>exact⟨k+1,om,by go_num,by rw[E.out,EQ.out,HL.out]⟩
     case measure=>simp[intOf];omega
    have D:((m:Int) % (lk.length:Int) != 0)=true:=by rw[<-apt,bne_iff_ne];omega
    have hm':=ahe Q.out (by rw[HL.out];exact hmL) hd;rw[HL.out]at hm';clear hd;go_wp2;go_round
    case rel=>exact⟨m+r,q+1,by go_num,hm',(by rw[aq7,<-Q.out,Nat.one_mul]:m+r=(q+1) * r),om⟩
    case measure=>simp[intOf];omega
  have e:k=t.length:=om;subst e;go_wp2;go_ret;exact⟨ret_i (by rw[acq]),rfl⟩
theorem amY(v:Value)(t:List (List Int))(a:Int)(n:Nat)(w:World)(hv:RowsAt w v t)(ht:Vld t)(ha1: -2000000<=a)(ha2:a<=2000000)(hn:n<=2000000):
  Calls prog 140 #[v,.int .i64 a,.int .i64 n] w fun e w'=>e= .returned (.int .i64 (acc (spd t) a n))/\Below w.heap.size w w':=by
 have P:=aaS ht n;have E:=hid (a6t (t:=t) a n);have hr:=ht.rnd_pos;have hr2:=ht.rnd_le;have hm:=Nat.mod_lt n hr;have hd:=Nat.div_le_self n (rnd t);have b2:=a4H ht a (n % rnd t);go_enter func140,ntmps140;go_wp2_with (go_at_call 178;refine(aaX _ _ _ hv ht).mono ?_;rintro e w1 ⟨rfl,rfl⟩)
 have S1:=fun nq=>Calls.quiet_of_same (n:=nq) ((rdrift_any v t 0 (rnd t) _ (hv.drewN nq) ht om om om).mono fun _ _ h=>⟨h.1,h.2.symm⟩);have S2:=fun nq=>Calls.quiet_of_same (n:=nq) ((rdrift_any v t a (n % rnd t) _ (hv.drewN nq) ht om om om).mono fun _ _ h=>⟨h.1,h.2.symm⟩);rw[apt]at S2;have H1:=hid S1;have H2:=hid S2;have E':=E.out;rw[Int.natCast_ediv]at E' P;have E2:=hid E';have hdv:=IntWalk.tdiv_le n (rnd t) om om;have hne:((rnd t:Int)==0)=false:=by simp;omega
 clear S1 S2 hv E E' hd hm;generalize acc (spd t) 0 (rnd t)=A0 at *;generalize acc (spd t) a (n % rnd t)=A1 at *;refine wp_region_quiet_lit ot ot ?_;repeat (any_goals (first|go_big_quiet_step ((go_at_call 183;first|(with_reducible exact H1.out _)|(with_reducible exact H2.out _)))|quiet_step (fail)))
 all_goals (refine wpQuiet_nil ?_;intro _ hw';obtain⟨nq,hw''⟩:=hw';subst hw'')
 all_goals go_wp2
 go_ret;exact⟨ret_i (by rw[E2.out];have:=a4H ht a n;exact IntWalk.wrap64_in _ om),belowN0 (aoi _ _) _⟩
theorem rDrift_any(v:Value)(t:List (List Int))(h n:Int)(w:World)(hv:RowsAt w v t):
  Calls prog 107 #[v,.int .i64 h,.int .i64 n] w fun e w'=>e= .returned (.tuple #[.int .i64 (qi t (hourB h&&spanB n) (acc (spd t) h n.toNat)),.int .i64 (qe t (hourB h&&spanB n))])/\Below w.heap.size w w':=by
 cases hy:vld t with
 |false=>
  rw[aha hy,ah9 hy];have Y:=hid hy;clear hy;go_enter func107,ntmps107;go_wp2_with (go_at_call 135;refine(rValid_any _ _ _ hv).mono ?_;rintro e w' ⟨rfl,rfl⟩;rw[Y.out])
  go_ret2;exact⟨rfl,aoi _ _⟩
 | true=>
  have T:=(vld_iff t).1 hy
  cases hr:hourB h with
  |false=>
   rw[Bool.false_and,aaQ,aaP hy];have Y:=hid hy;have R:=hid hr;clear hy hr;go_enter func107,ntmps107;go_wp2_with (first|(go_at_call 135;refine(rValid_any _ _ _ hv).mono ?_;rintro e w' ⟨rfl,rfl⟩;rw[Y.out])|(go_at_call 139;refine(a4T _ _).mono ?_;rintro e w' ⟨rfl,rfl⟩;rw[R.out]))
   go_ret2;exact⟨rfl,aoi _ _⟩
  | true=>
   by_cases h1:n<0
   ·have hs:spanB n=false:=by
     cases hs:spanB n with
     |false=>rfl
     |true=>have:=(spanB_iff n).1 hs;omega
    rw[hs,Bool.and_false,aaQ,aaP hy];have Y:=hid hy;have R:=hid hr;clear hy hr hs;go_enter func107,ntmps107;go_wp2_with (first|(go_at_call 135;refine(rValid_any _ _ _ hv).mono ?_;rintro e w' ⟨rfl,rfl⟩;rw[Y.out])|(go_at_call 139;refine(a4T _ _).mono ?_;rintro e w' ⟨rfl,rfl⟩;rw[R.out]))
    go_ret2;exact⟨rfl,aoi _ _⟩
   by_cases h2:1000000<n
   ·have hs:spanB n=false:=by
     cases hs:spanB n with
     |false=>rfl
     |true=>have:=(spanB_iff n).1 hs;omega
    rw[hs,Bool.and_false,aaQ,aaP hy];have Y:=hid hy;have R:=hid hr;clear hy hr hs;go_enter func107,ntmps107;go_wp2_with (first|(go_at_call 135;refine(rValid_any _ _ _ hv).mono ?_;rintro e w' ⟨rfl,rfl⟩;rw[Y.out])|(go_at_call 139;refine(a4T _ _).mono ?_;rintro e w' ⟨rfl,rfl⟩;rw[R.out]))
    go_ret2;exact⟨rfl,aoi _ _⟩
   have hs:spanB n=true:=(spanB_iff n).2 om
   have hh:=(acr h).1 hr
   rw[hs,Bool.and_self,ae7 hy,ae6 hy];obtain⟨n,rfl⟩:=aoH (show 0<=n by omega);rw[aoY];have h3:h<=1000000/\ -1000000<=h:=⟨hh.2,hh.1⟩
   have Y:=hid hy;have R:=hid hr;clear hy hr hs hh;go_enter func107,ntmps107;go_wp2_with (first|(go_at_call 135;refine(rValid_any _ _ _ hv).mono ?_;rintro e w' ⟨rfl,rfl⟩;rw[Y.out])|(go_at_call 139;refine(a4T _ _).mono ?_;rintro e w' ⟨rfl,rfl⟩;rw[R.out])|(go_at_call 140;refine(amY _ _ _ _ _ hv T om om om).mono ?_;rintro e w1 ⟨rfl,hb1⟩))
   go_ret2;exact⟨rfl,hb1⟩
theorem Tryz.infoInt:(prog.info? 3).map (fun i=>(i.zero,i.size,i.bytes))=some (some (.int .i64 0),1,8):=ot
def sps(t:List (List Int))(n:Nat):List Int:=(List.range n).map fun(k:Nat)=>spd t (k:Int)
theorem a3K(t:List (List Int))(n:Nat):(sps t n).length=n:=by simp[sps]
theorem ag2(t:List (List Int))(n k:Nat)(h:k<n):(sps t n).getD k 0=spd t k:=by simp[sps,aoh,h]
def anM(l:List Int)(w:World)(e:Ending)(w':World):Prop:=∃ov,e= .returned ov/\IntsAt w' ov l/\Below w.heap.size w w'
theorem ahg(v:Value)(t:List (List Int))(n:Nat)(w:World)(hv:RowsAt w v t)(ht:Vld t)(hn:n<=1000000):
  Calls prog 179 #[v,.int .i64 n] w (anM (sps t n) w):=by
 obtain⟨i0,hi0,hz0,hz1,hz2⟩:=info_parts Tryz.infoInt;go_enter func179,ntmps179;go_wp2_with (at_make;refine wpList_make_full _ rfl _ _ 122 rfl w.heap.size 3 i0 (.int .i64 0) 1 underlying122 hi0 hz0 hz1 .i64 .i64 _ _ n rfl rfl rfl rfl (by rw[hz2];omega) (by unfold maxLen;omega) (aof _) ?_;intro w1 hown1 hgrow1)
 have hb1:Below w.heap.size w w1:=(aoi _ _).grown hgrow1 (aof _) (fun k e=>by cases e)
 generalize (madeCells (Value.int .i64 0).cells (n * 1)).toList=ys at hown1
 clear hgrow1
 go_loopw [11] (fun i wr=>∃(k:Nat) (xs:List Value),k<=n/\i= .int .i64 k/\wr.ownsRow w.heap.size 3 1 (.slice (some ⟨w.heap.size,0,none⟩) n n) n xs/\(∀j,j<k->xs.getD j undef= .int .i64 (spd t j))/\Below w.heap.size w wr)
  (fun i _=>n-(intOf i).toNat)
 case atStart=>exact⟨0,_,aot _,rfl,hown1,fun j hj=>om,hb1⟩
 case round=>
  obtain⟨k,xs,hk,rfl,hown,hall,hbel⟩:=hrel;have A:=hid hall;clear hall hb1 hown1;by_cases hlt:k<n
  ·have hvr:=hv.below hbel;have hxl:=hown.1
   have hcell:wr.cell? ⟨w.heap.size,k,none⟩=some (xs.getD k undef):=by
    rw[hown.cellAt k om,aoh,aoj om];rfl
   have hfr:=hown.frozenAt k;obtain⟨st1,st2⟩:=hown.stored k (.int .i64 (spd t k));have XL:=hid hxl;have S1:=hid st1;have S2:=hid st2;generalize xs.getD k undef=old at hcell;clear hv hxl st1 st2;go_wp2_with (go_at_call 223;refine(aaW _ _ _ _ hvr ht).mono ?_;rintro e w' ⟨rfl,rfl⟩)
   go_roundw
   case rel=>exact⟨k+1,xs.set k (.int .i64 (spd t k)),om,by go_num,S1.out,fun j hj=>by
    have hxl:=XL.out;by_cases e:j=k
    ·subst e;rw[aoh,List.getElem?_set_self om];rfl
    rw[aoh,List.getElem?_set_ne om,<-aoh];exact A.out j om,hbel.setCell (aof _) _⟩
   case measure=>simp[intOf];omega
  have e:k=n:=om;subst e;go_wp2;go_ret
  have hxs:xs=(sps t k).map (Value.int .i64):=by
   have hxl:=hown.1;apply List.ext_getElem (by simp[a3K];omega);intro j h1 h2;have:=A.out j (by simp[a3K]at h2;omega);rw[aoh,aoj h1]at this;simp at this;rw[this];simp[sps]
  refine⟨_,rfl,own_ints (e:=3) (base:=w.heap.size) ?_ (by rw[a3K];omega),hbel⟩;rw[a3K,<-hxs];exact hown
theorem ajD(f:Int->Int)(k b:Nat):a42 f (k+1) b=(a42 f k b&&(f k==f ((k:Int)+b))):=by
 unfold a42;rw[List.range_succ,List.all_append];simp
theorem ints_cell{w:World}{v:Value}{l:List Int}(h:IntsAt w v l)(h0:0<l.length):
  ∃b off cap,v= .slice (some ⟨b,off,none⟩) l.length cap/\∀j,j<l.length->w.cell? ⟨b,off+j,none⟩=some (.int .i64 (l.getD j 0)):=by
 obtain⟨a,cap,rfl,_,hq⟩:=h;obtain⟨b,off,rfl,hc⟩:=hq h0;exact⟨b,off,cap,rfl,hc⟩
theorem rbeat_any (v:Value) (t:List (List Int)) (w:World) (hv:RowsAt w v t) (ht:Vld t):
  Calls prog 136 #[v] w fun e w'=>e= .returned (.int .i64 (bt (spd t) (rnd t):Nat))/\Below w.heap.size w w':=by
 have hr:=ht.rnd_pos;have hr2:=ht.rnd_le;have hper:=ag1 t;go_enter func136,ntmps136
 go_wp2_with (first
  |(go_at_call 178;refine(aaX _ _ _ hv ht).mono ?_;rintro e w1 ⟨rfl,rfl⟩)
  |(go_at_call 179;refine(ahg _ _ _ _ hv ht om).mono ?_;rintro e w2 ⟨lv,rfl,hl,hb2⟩;have hlc:=ints_cell hl (by rw[a3K];exact hr);rw[a3K]at hlc;obtain⟨lb,lo,lcap,rfl,hlcell⟩:=hlc))
 have LC:=hid hlcell;clear hl hlcell hv;go_loopw [5] (fun i wr=>∃b:Nat,1<=b/\b<=rnd t/\i= .int .i64 b/\Hid (btFrom (spd t) (rnd t) (rnd t-b) b=bt (spd t) (rnd t))/\Below w2.heap.size w2 wr) (fun i _=>rnd t-(intOf i).toNat)
 case atStart=>exact⟨1,aof _,hr,rfl,rfl,aoi _ _⟩
 case round=>
  obtain⟨b,hb0,hb,rfl,H,hbel⟩:=hrel;by_cases hlt:b<rnd t
  ·by_cases hd:rnd t % b=0
   ·have hD:((rnd t:Int) % (b:Int) != 0)=false:=by rw[<-apt,hd];rfl
    obtain⟨wo,rfl⟩:∃wo:World,wo=wr:=⟨_,rfl⟩
    go_wp2;go_loopw [6,23] (fun s i wi=>∃k:Nat,k<=rnd t/\i= .int .i64 k/\s= .bool (a42 (spd t) k b)/\Below w2.heap.size w2 wi) (fun _ i _=>rnd t-(intOf i).toNat)
    case atStart=>exact⟨0,aot _,rfl,rfl,hbel⟩
    case round=>
     obtain⟨k,hk,rfl,rfl,hbi⟩:=hrel;clear hbel;by_cases hlt2:k<rnd t
     ·have hs:=ajD (spd t) k b;have hm:=Nat.mod_lt (k+b) hr;have hc1:=LC.out k hlt2;have hc2:=LC.out ((k+b) % rnd t) hm;rw[ag2 _ _ _ hlt2]at hc1;rw[ag2 _ _ _ hm,apt,hper.mod,Int.natCast_add]at hc2;have hc1':=keep_cell hbi hc1;have hc2':=keep_cell hbi hc2;clear hc1 hc2;generalize spd t k=s1 at *;generalize spd t ((k:Int)+b)=s2 at *;have hm1:0<=((k:Int)+b) % (rnd t:Int):=apZ _ om;have hm2:((k:Int)+b) % (rnd t:Int)<rnd t:=apW _ om;have hne:((rnd t:Int)==0)=false:=beq_eq_false_iff_ne.2 om;cases hp:a42 (spd t) k b with
      | true=>
       by_cases he:s1=s2
       ·have hE:(s1==s2)=true:=by simpa using he
        rw[hp,hE]at hs;have S:=hid hs;have PP:=hid hp;clear hs he hp;go_wp2;refine wp_region_quiet_lit ot ot ?_;repeat (any_goals (first|go_big_quiet_step (fail)|quiet_step (fail)))
        all_goals (refine wpQuiet_nil ?_;intro _ hw';obtain⟨nq,hw''⟩:=hw';subst hw'')
        all_goals go_wp2
        go_roundw
        case rel=>exact⟨k+1,om,by go_num,by rw[S.out];rfl,belowN0 hbi _⟩
        case measure=>simp[intOf];omega
       have hE:(s1==s2)=false:=by simpa using he
       rw[hp,hE]at hs;have S:=hid hs;have PP:=hid hp;clear hs he hp;go_wp2;refine wp_region_quiet_lit ot ot ?_;repeat (any_goals (first|go_big_quiet_step (fail)|quiet_step (fail)))
       all_goals (refine wpQuiet_nil ?_;intro _ hw';obtain⟨nq,hw''⟩:=hw';subst hw'')
       all_goals go_wp2
       go_roundw
       case rel=>exact⟨k+1,om,by go_num,by rw[S.out];rfl,belowN0 hbi _⟩
       case measure=>simp[intOf];omega
      |false=>
       rw[hp]at hs;have S:=hid hs;have PP:=hid hp;clear hs hp;go_wp2;refine wp_region_quiet_lit ot ot ?_;repeat (any_goals (first|go_big_quiet_step (fail)|quiet_step (fail)))
       all_goals (refine wpQuiet_nil ?_;intro _ hw';obtain⟨nq,hw''⟩:=hw';subst hw'')
       all_goals go_wp2
       go_roundw
       case rel=>exact⟨k+1,om,by go_num,by rw[S.out];rfl,belowN0 hbi _⟩
       case measure=>simp[intOf];omega
     have e:k=rnd t:=om;subst e;cases hp:a42 (spd t) (rnd t) b with
     |true=>
      have E:=hid (aaU hlt ⟨hd,hp⟩);have PP:=hid hp;clear hp hd;go_wp2;go_ret;exact⟨ret_i (by rw[<-H.out,E.out]),below_trans hb2 hbi⟩
     |false=>
      have E:=hid (a4S (f:=spd t) hlt (fun h=>by rw[hp]at h;exact absurd h.2 oz));have PP:=hid hp;clear hp hd;go_wp2;go_roundw
      case rel=>exact⟨b+1,om,om,by go_num,by rw[<-E.out];exact H.out,hbi⟩
      case measure=>simp[intOf];omega
   have hD:((rnd t:Int) % (b:Int) != 0)=true:=by rw[<-apt,bne_iff_ne];omega
   have E:=hid (a4S (f:=spd t) hlt (fun h=>hd h.1));clear hd;go_wp2;go_roundw
   case rel=>exact⟨b+1,om,om,by go_num,by rw[<-E.out];exact H.out,hbel⟩
   case measure=>simp[intOf];omega
  have e:b=rnd t:=om;have H':=H.out;rw[e,aaT]at H';have HH:=hid H';clear H' H;go_wp2;go_ret;exact⟨ret_i (by rw[<-HH.out]),below_trans hb2 hbel⟩
theorem rBeat_any(v:Value)(t:List (List Int))(w:World)(hv:RowsAt w v t):
  Calls prog 105 #[v] w fun e w'=>e= .returned (.tuple #[.int .i64 (qi t true (bt (spd t) (rnd t):Nat)),.int .i64 (qe t true)])/\Below w.heap.size w w':=by
 cases hy:vld t with
 | false=>
  rw[aha hy,ah9 hy];have Y:=hid hy;clear hy;go_enter func105,ntmps105
  go_wp2_with (first
   |(go_at_call 135;refine(rValid_any _ _ _ hv).mono ?_;rintro e w' ⟨rfl,rfl⟩;rw[Y.out]))
  go_ret2;exact⟨rfl,aoi _ _⟩
 | true=>
  rw[ae7 hy,ae6 hy];have T:=(vld_iff t).1 hy
  have hr2:=T.rnd_le;have Y:=hid hy;clear hy;go_enter func105,ntmps105
  go_wp2_with (first
   |(go_at_call 135;refine(rValid_any _ _ _ hv).mono ?_;rintro e w' ⟨rfl,rfl⟩;rw[Y.out])
   |(go_at_call 136;refine(rbeat_any _ _ _ hv T).mono ?_;rintro e w1 ⟨rfl,hb1⟩))
  go_ret2;exact⟨rfl,hb1⟩
end Go.Proofs.YtdfkaijeppdhaaaGreatDoor.Td
