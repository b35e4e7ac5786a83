/- Part of the proof. -/
import Derived.Test.YtdfkaijeppdhaaaGreatDoorZHs19
import Derived.Test.YtdfkaijeppdhaaaGreatDoorZHs35
set_option maxRecDepth 100000
set_option maxHeartbeats 8000000
set_option linter.unusedSimpArgs false
set_option linter.unusedVariables false

namespace Go.Proofs.YtdfkaijeppdhaaaGreatDoor
open Lib (hid)
open Proofs.Tryz Go.RowKit Go.Shelf
def a7y(s t:ByteArray):Nat:=if a4q s t then a2Q s.data.toList t.data.toList else 0
def a6w(s t:ByteArray):Int:=if a4q s t then 0 else 90
theorem a3i{s:ByteArray}(h:a2b s=true):s.size<=20:=by
 unfold a2b at h;rw[Bool.and_eq_true,decide_eq_true_eq]at h;exact h.1
theorem agh(s t:ByteArray):a7y s t<=40:=by
 unfold a7y;split
 ·rename_i h
  unfold a4q at h;rw[Bool.and_eq_true]at h;have h1:=a3i h.1;have h2:=a3i h.2;have h3:=a6C s.data.toList t.data.toList;rw[<-a05,<-a05]at h3;omega
 omega
def a4K(s t:ByteArray)(w:World)(e:Ending)(w':World):Prop:=e= .returned (.tuple #[.int .i64 (a7y s t:Nat),.int .i64 (a6w s t)])/\Below w.heap.size w w'
theorem aey(s t:ByteArray)(hs:s.size<=1000000)(ht:t.size<=1000000)(w:World):
  Calls prog 151 #[.string s,.string t,.agg #[.int .i64 1,.int .i64 1]] w (a4K s t w):=by
 have hb1:Below w.heap.size w (w.alloc (.cells #[.int .i64 1,.int .i64 1] 176)):=(aoi _ _).alloc (aof _) _
 have HN:=hid (afq s t hs ht (w.alloc (.cells #[.int .i64 1,.int .i64 1] 176)));have HB1:=hid hb1;clear hb1;unfold a4K a7y a6w;cases hp:a4q s t with
 |false=>
  rw[hp]at HN;simp only[Bool.false_eq_true,if_false]at HN⊢;unfold ah3 at HN;clear hp;go_enter func151,ntmps151;go_wp2_with fail
  refine HN.out.mono ?_;rintro e w2 ⟨rfl,hb2⟩;have HB2:=hid (below_trans HB1.out hb2);clear hb2;go_wp2;go_ret2;exact⟨rfl,HB2.out.alloc HB2.out.size _⟩
 |true=>
  rw[hp]at HN;simp only[if_true]at HN⊢;unfold ah2 at HN;unfold a4q at hp;rw[Bool.and_eq_true]at hp;have HS:=hid (And.intro (a3i hp.1) (a3i hp.2));have HD:=hid (show cst s.data.toList t.data.toList 0 0=a2Q s.data.toList t.data.toList from rfl);generalize a2Q s.data.toList t.data.toList=d at *;clear hp;go_enter func151,ntmps151;go_wp2_with fail
  refine HN.out.mono ?_;rintro e w2 ⟨rfl,hb2⟩;have HB2:=hid (below_trans HB1.out hb2);clear hb2;have HB3:=hid (HB2.out.alloc HB2.out.size (.cells #[.string s,.string t,.int .i64 1,.int .i64 1] 253));go_wp2_with fail
  refine(aju s t HS.out.1 HS.out.2 _).mono ?_
  rintro e w3 ⟨O,G,rfl,htab,hb3⟩;have HB4:=hid (below_trans HB3.out hb3);have q0:=htab.look (i:=0) (aof _) (aot _);obtain⟨v,q1,hv⟩:=htab.entry (i:=0) (k:=0) (e:=0) (aof _) (aot _) (aot _) om (.inr (aof _));unfold okR at hv;rw[if_pos rfl]at hv;subst hv;rw[HD.out]at q1;simp only[Nat.zero_mul,apM]at q1;have z1:(0:Int)<(s.size:Int)+1:=om;have z2:(0:Int)<(t.size:Int)+1:=om;clear hb3 htab;go_wp2;go_ret2;exact⟨rfl,HB4.out⟩
def a3D(ts:List ByteArray):ByteArray×Int:=(itoaB (a7y (ts.getD 0 emp) (ts.getD 1 emp):Nat),a6w (ts.getD 0 emp) (ts.getD 1 emp))
theorem alQ(W:World)(base:Nat)(tv bv:Value)(ts:List ByteArray)(h:W.ownsRow base 9 1 tv ts.length (ts.map Value.string))(h0:ts.length=2)(hsz:∀x∈ts,x.size<=1000000)(hV:Vars W):Calls prog 118 #[tv,bv] W (a0J (a3D ts) W):=by
 rcases h.2 with⟨_,h1⟩|⟨g,cap,cur,rfl,_⟩
 ·omega
 have c0:=h.cellAt 0 om;have c1:=h.cellAt 1 om;rw[apr,aoj om]at c0 c1;have hx:ts.getD 0 emp=ts[0]:=by rw[aoh,aoj om];rfl
 have hy:ts.getD 1 emp=ts[1]:=by rw[aoh,aoj om];rfl
 have hsx:=hsz ts[0] (aoZ _);have hsy:=hsz ts[1] (aoZ _);unfold a3D;rw[hx,hy];generalize ts[0]=x at *;generalize ts[1]=y at *;rw[h0];simp only[Option.map_some]at c0 c1;clear h hx hy hsz h0;have HD:=hid (fun X=>aey x y hsx hsy X);unfold a4K at HD;have HF:=hid (agh x y);have HV:=hid hV;generalize a7y x y=d at *;generalize a6w x y=er at *;clear hV;have j0:∀X,KB W X->X.cell? ⟨g,0,none⟩=some (.string x):=fun X hX=>keep_cell hX c0;have j1:∀X,KB W X->X.cell? ⟨g,1,none⟩=some (.string y):=fun X hX=>keep_cell hX c1;go_enter func118,ntmps118;go_wp2_with fail
 go_region_held3 (fun X=>KB W X) (first|exact KB.refl _|exact KB.drew (KB.refl _)|assumption|exact KB.drew (by assumption)|fail) (first
  |(go_at_call 151;refine(HD.out _).mono ?_;rintro e w2 ⟨rfl,hb2⟩;have q2:KB W w2:=KB.call (KB.drew (KB.refl _)) hb2;have HB2:=hid q2;have HI:=hid (itoa_any (d:Int) om (by have:=HF.out;omega) w2 (HV.out.below HB2.out));clear hb2)
  |fail)
 all_goals (
  go_wp2_with (first
   |(go_at_call 48;refine HI.out.mono ?_;rintro e w3 ⟨rfl,hb3⟩)
   |fail)
  go_ret2;exact⟨rfl,below_trans HB2.out hb3⟩)
theorem acJ:∀(l:List Ent) (kn:Kn),(∀n t,kn.txt n=some t->t.size<=60)->(∀e∈l,(a0b e).size<=60)->∀n t,(a1Z kn l).txt n=some t->t.size<=60
 |[],kn,h,_=>h
 | e ::l,kn,h,hl=>by
  have h1:∀n t,(a10 kn (a0b e)).txt n=some t->t.size<=60:=by
   intro n t ht;unfold a10 at ht;cases hp:a08 (a0b e)with
   |none=>rw[hp]at ht;exact h n t ht
   | some c=>
    rw[hp]at ht;simp only at ht;split at ht
    ·cases c with
     | put x u=>
      simp only[a19,upd]at ht;split at ht
      ·cases ht
       have:=(Cmd.put_size hp)
       have:=hl e oz;omega
      exact h n t ht
     |drop x=>
      simp only[a19]at ht;split at ht
      ·exact h n t ht
      simp only[upd]at ht;split at ht
      ·cases ht
      exact h n t ht
     |add x m=>exact h n t ht
     |stock x=>exact h n t ht
     |share m x=>exact h n t ht
     |asked k x m=>exact h n t ht
    exact h n t ht
  exact acJ l _ h1 (fun e he=>hl e (by simp[he]))
theorem acK{b:a00}(hb:a02 b)(n t:ByteArray)(h:(a0e (a06 b)).txt n=some t):t.size<=60:=
 acJ (a06 b) kn0 (fun _ _ h=>by cases h) (fun _ he=>((a1d _).1 (by rw[<-a1I];exact(a0y hb he).2.2.2)).1) n t h
theorem aez{α β:Type}{f:α->Option β}:∀{l:List α} {ys:List β},allS f l=some ys->∀y∈ys,∃x,f x=some y
 |[],_,h,y,hy=>by simp only[allS,Option.some.injEq]at h;subst h;simp at hy
 | a::l,ys,h,y,hy=>by
  unfold allS at h;cases h1:f a with
  |none=>simp[h1]at h
  | some z=>
   cases h2:allS f l with
   |none=>simp[h1,h2]at h
   |some zs=>
    simp only[h1,h2,Option.some.injEq]at h;subst h;rcases aov.1 hy with rfl|hy
    ·exact⟨a,h1⟩
    exact aez h2 y hy
theorem afD(P n:Nat)(F:List Nat)(b:a00)(line:ByteArray)(hs:line.size<=1000000)(w:World)(h:PostAt w P F n b)(hok:a02 b)(hV:Vars w)(names:List ByteArray)(ns:List Int)(hc:a08 line=some (.asked 2 names ns)):
  Calls prog 36 #[.pointer (some ⟨P,0,none⟩),.string line] w (a0J (a0B a3D names (a0e (a06 b))) w):=by
 have hsh:=(Cmd.shape hc).2 _ _ _ rfl
 unfold Shp at hsh
 exact a5n P n F b line hs w h hok hV 2 names ns hc om om a3D (enters_of func118 ot rfl) fun W base tv bv ts hb _ hrow _ hts=>by
  have hlen:=allS_len _ _ _ hts;refine alQ W base tv bv ts hrow om (fun x hx=>?_) (hV.below hb);obtain⟨n,hn⟩:=aez hts x hx;have:=acK hok n x hn;omega
theorem ahM(c:UInt8):a4p c=true↔97<=c.toNat/\c.toNat<=104:=by
 unfold a4p peaksL;simp only[List.contains_cons,List.contains_nil,Bool.or_false,Bool.or_eq_true,beq_iff_eq];have h:∀n:Nat,n<256->(c=UInt8.ofNat n↔c.toNat=n):=fun n hn=>u8_eq hn;rw[show (97:UInt8)=UInt8.ofNat 97 from rfl,show (98:UInt8)=UInt8.ofNat 98 from rfl,show (99:UInt8)=UInt8.ofNat 99 from rfl,show (100:UInt8)=UInt8.ofNat 100 from rfl,show (101:UInt8)=UInt8.ofNat 101 from rfl,show (102:UInt8)=UInt8.ofNat 102 from rfl,show (103:UInt8)=UInt8.ofNat 103 from rfl,show (104:UInt8)=UInt8.ofNat 104 from rfl];rw[h 97 om,h 98 om,h 99 om,h 100 om,h 101 om,h 102 om,h 103 om,h 104 om];omega
theorem a8G(s:ByteArray):a2b s=(decide (s.size<=20)&&s.data.toList.all a4p):=by unfold a2b;rw[ah1]
theorem abg{s:ByteArray}{k:Nat}(hk:k<s.size)(h:a4p s[k]=false):a2b s=false:=by
 rw[a8G]
 have:s.data.toList.all a4p=false:=by
  rw[<-ap9 k s.data.toList,drop_byte hk];simp[h]
 rw[this,Bool.and_false]
theorem rValid_any(s:ByteArray)(w:World)(hs:s.size<=1000000):Calls prog 180 #[.string s] w (agS (a2b s) w):=by
 by_cases h20:s.size<=20
 ·have h20i:¬(20:Int)<(s.size:Int):=om;have HT0:Hid ((s.data.toList.take 0).all a4p=true):=hid oz;go_enter func180,ntmps180;go_wp2;go_loopw [9] (fun i wr=>∃k:Nat,k<=s.size/\i= .int .i64 k/\Hid ((s.data.toList.take k).all a4p=true)/\wr=w) (fun i _=>s.size-(intOf i).toNat)
  case atStart=>exact⟨0,om,rfl,HT0,rfl⟩
  case round=>
   obtain⟨k,hk,rfl,HT,rfl⟩:=hrel;by_cases hlt:k<s.size
   ·have hlt2:(k:Int)<(s.size:Int):=om;have HI:=hid (ahM s[k]);by_cases h97:s[k].toNat<97
    ·have h97i:(s[k].toNat:Int)<97:=om;have HB:=hid (abg hlt (by rw[<-Bool.not_eq_true,HI.out];omega));clear h97;go_wp2;go_ret;exact⟨by rw[HB.out];rfl,rfl⟩
    have h97i:¬(s[k].toNat:Int)<97:=om;by_cases h104:104<s[k].toNat
    ·have h104i:(104:Int)<(s[k].toNat:Int):=om;have HB:=hid (abg hlt (by rw[<-Bool.not_eq_true,HI.out];omega));clear h97 h104;go_wp2;go_ret;exact⟨by rw[HB.out];rfl,rfl⟩
    have h104i:¬(104:Int)<(s[k].toNat:Int):=om
    have HT2:Hid ((s.data.toList.take (k+1)).all a4p=true):=hid (by
     rw[a2B hlt,List.all_append,HT.out];simp only[List.all_cons,List.all_nil,Bool.and_true,Bool.true_and];rw[HI.out];omega)
    clear h97 h104;go_wp2;go_roundw
    case rel=>exact⟨k+1,om,by go_num,HT2,trivial⟩
    case measure=>simp[intOf];omega
   obtain rfl:k=s.size:=om
   have HB:Hid (a2b s=true):=hid (by
    have:=HT.out;rw[aou (by rw[<-a05];omega)]at this;rw[a8G,this,decide_eq_true h20];rfl)
   go_wp2;go_ret;exact⟨by rw[HB.out];rfl,rfl⟩
 have h20i:(20:Int)<(s.size:Int):=om;have HB:Hid (a2b s=false):=hid (by rw[a8G,decide_eq_false h20];rfl);go_enter func180,ntmps180;go_wp2;go_ret;exact⟨by rw[HB.out];rfl,rfl⟩
theorem ahN(w:World):Calls prog 181 #[.agg #[.int .i64 1,.int .i64 1]] w fun e w'=>e= .returned (.bool true)/\Below w.heap.size w w':=by
 go_enter func181,ntmps181;go_wp2;go_ret;exact⟨rfl,(aoi _ _).alloc (aof _) _⟩
theorem rasked_any(s t:ByteArray)(hs:s.size<=1000000)(ht:t.size<=1000000)(w:World):Calls prog 137 #[.string s,.string t,.agg #[.int .i64 1,.int .i64 1]] w fun e w'=>e= .returned (.int .i64 (a6w s t))/\Below w.heap.size w w':=by
 have HS:=hid (fun W=>rValid_any s W hs);have HT:=hid (fun W=>rValid_any t W ht);have hb1:Below w.heap.size w (w.alloc (.cells #[.int .i64 1,.int .i64 1] 176)):=(aoi _ _).alloc (aof _) _
 have HB1:=hid hb1;have HC:=hid (ahN (w.alloc (.cells #[.int .i64 1,.int .i64 1] 176)));clear hb1;unfold a6w a4q;cases h1:a2b s with
 |false=>
  rw[h1]at HS;simp only[Bool.false_and,Bool.false_eq_true,if_false];clear h1;go_enter func137,ntmps137;go_wp2_with fail
  refine(HS.out _).mono ?_
  rintro e w2 ⟨rfl,rfl⟩;go_wp2;go_ret;exact⟨rfl,HB1.out⟩
 | true=>
  rw[h1]at HS;clear h1;cases h2:a2b t with
  |false=>
   rw[h2]at HT;simp only[Bool.and_false,Bool.false_eq_true,if_false];clear h2;go_enter func137,ntmps137;go_wp2_with fail
   refine(HS.out _).mono ?_
   rintro e w2 ⟨rfl,rfl⟩;go_wp2_with fail
   refine(HT.out _).mono ?_
   rintro e w2 ⟨rfl,rfl⟩;go_wp2;go_ret;exact⟨rfl,HB1.out⟩
  |true=>
   rw[h2]at HT;simp only[Bool.and_self,if_true];clear h2;go_enter func137,ntmps137;go_wp2_with fail
   refine(HS.out _).mono ?_
   rintro e w2 ⟨rfl,rfl⟩;go_wp2_with fail
   refine(HT.out _).mono ?_
   rintro e w2 ⟨rfl,rfl⟩;go_wp2_with fail
   refine HC.out.mono ?_;rintro e w2 ⟨rfl,hb2⟩;have HB2:=hid (below_trans HB1.out hb2);clear hb2;go_wp2;go_ret;exact⟨rfl,HB2.out⟩
def a1Y(s t:List UInt8)(i k e:Nat):Option Stp:=
 if e=1 then (if i<s.length/\k<t.length/\s.getD i 0=t.getD k 0 then some ⟨1,i+1,k+1,0⟩else none)
 else if e=2 then (if i<s.length/\k<t.length/\s.getD i 0≠t.getD k 0 then some ⟨2,i+1,k+1,1⟩else none)
 else if e=3 then (if i<s.length then some ⟨3,i+1,k,1⟩else none)
 else (if k<t.length then some ⟨4,i,k+1,1⟩else none)
def a5R(i k:Nat)(o:Option Stp)(w:World)(e:Ending)(w':World):Prop:=
 (match o with
  |some x=>∃a b:Nat,e= .returned (.tuple #[.int .i64 (x.cost:Nat),.int .i64 (a:Nat),.int .i64 (b:Nat),.bool true])/\i+a=x.i/\k+b=x.k
  |none=>∃c a b:Int,e= .returned (.tuple #[.int .i64 c,.int .i64 a,.int .i64 b,.bool false]))/\Below w.heap.size w w'
theorem a2T(w:World)(n:Nat):Below w.heap.size w ((w.alloc (.cells #[.int .i64 1,.int .i64 1] 176)).drewN n):=a0q ((aoi _ _).alloc (aof _) _) n
theorem a6f(s t:ByteArray)(i k e:Nat):a1Y s.data.toList t.data.toList i k e=if e=1 then (if i<s.size/\k<t.size/\s.data.toList.getD i 0=t.data.toList.getD k 0 then some ⟨1,i+1,k+1,0⟩else none)
 else if e=2 then (if i<s.size/\k<t.size/\s.data.toList.getD i 0≠t.data.toList.getD k 0 then some ⟨2,i+1,k+1,1⟩else none)
 else if e=3 then (if i<s.size then some ⟨3,i+1,k,1⟩else none)
 else (if k<t.size then some ⟨4,i,k+1,1⟩else none):=by
 unfold a1Y;rw[a05 s,a05 t]
theorem anS(s t:ByteArray)(i k:Nat)(hs:s.size<=20)(ht:t.size<=20)(w:World):
  Calls prog 182 #[.string s,.string t,.int .i64 i,.int .i64 k,.int .i64 1,.agg #[.int .i64 1,.int .i64 1]] w (a5R i k (a1Y s.data.toList t.data.toList i k 1) w):=by
 rw[a6f];simp only[if_true];have h1z:(0:Int)<=(i:Int):=om;have h2z:(0:Int)<=(k:Int):=om;by_cases h1:i<s.size
 ·have h1i:(i:Int)<(s.size:Int):=om;by_cases h2:k<t.size
  ·have h2i:(k:Int)<(t.size:Int):=om;by_cases hb:s[i]=t[k]
   ·have hq:s.data.toList.getD i 0=t.data.toList.getD k 0:=by rw[a2t s h1,a2t t h2,hb]
    have hne:((s[i].toNat:Int)==(t[k].toNat:Int))=true:=by rw[hb];simp
    rw[if_pos ⟨h1,h2,hq⟩];clear hb hq;go_enter func182,ntmps182;go_wp2;go_quiet (fail)
    go_wp2;refine bodyPost_ret (v:=.tuple #[.int .i64 0,.int .i64 1,.int .i64 1,.bool true]) (by simp[results,results182,go_sem]) rfl ?_;exact⟨⟨1,1,rfl,rfl,rfl⟩,a2T _ _⟩
   have hq:s.data.toList.getD i 0≠t.data.toList.getD k 0:=by rw[a2t s h1,a2t t h2];exact hb
   have hne:((s[i].toNat:Int)==(t[k].toNat:Int))=false:=by
    have hx:¬(s[i].toNat:Int)=(t[k].toNat:Int):=fun h=>hb (UInt8.toNat_inj.1 om);simp[hx]
   rw[if_neg (fun h=>hq h.2.2)];clear hb hq;go_enter func182,ntmps182;go_wp2;go_quiet (fail)
   go_wp2;refine bodyPost_ret (v:=.tuple #[.int .i64 0,.int .i64 1,.int .i64 1,.bool false]) (by simp[results,results182,go_sem]) rfl ?_;exact⟨⟨_,_,_,rfl⟩,a2T _ _⟩
  have h2i:¬(k:Int)<(t.size:Int):=om;rw[if_neg (fun h=>h2 h.2.1)];go_enter func182,ntmps182;go_wp2;go_quiet (fail)
  go_wp2;refine bodyPost_ret (v:=.tuple #[.int .i64 0,.int .i64 1,.int .i64 1,.bool false]) (by simp[results,results182,go_sem]) rfl ?_;exact⟨⟨_,_,_,rfl⟩,a2T _ _⟩
 have h1i:¬(i:Int)<(s.size:Int):=om;rw[if_neg (fun h=>h1 h.1)];go_enter func182,ntmps182;go_wp2;go_quiet (fail)
 go_wp2;refine bodyPost_ret (v:=.tuple #[.int .i64 0,.int .i64 1,.int .i64 1,.bool false]) (by simp[results,results182,go_sem]) rfl ?_;exact⟨⟨_,_,_,rfl⟩,a2T _ _⟩
theorem anT(s t:ByteArray)(i k:Nat)(hs:s.size<=20)(ht:t.size<=20)(w:World):
  Calls prog 182 #[.string s,.string t,.int .i64 i,.int .i64 k,.int .i64 2,.agg #[.int .i64 1,.int .i64 1]] w (a5R i k (a1Y s.data.toList t.data.toList i k 2) w):=by
 rw[a6f];simp only[show¬(2=1) by decide,if_true,if_false];have h1z:(0:Int)<=(i:Int):=om;have h2z:(0:Int)<=(k:Int):=om;by_cases h1:i<s.size
 ·have h1i:(i:Int)<(s.size:Int):=om;by_cases h2:k<t.size
  ·have h2i:(k:Int)<(t.size:Int):=om;by_cases hb:s[i]=t[k]
   ·have hq:s.data.toList.getD i 0=t.data.toList.getD k 0:=by rw[a2t s h1,a2t t h2,hb]
    have hne:((s[i].toNat:Int) != (t[k].toNat:Int))=false:=by rw[hb];simp
    rw[if_neg (fun h=>h.2.2 hq)];clear hb hq;go_enter func182,ntmps182;go_wp2;go_quiet (fail)
    go_wp2;refine bodyPost_ret (v:=.tuple #[.int .i64 1,.int .i64 1,.int .i64 1,.bool false]) (by simp[results,results182,go_sem]) rfl ?_;exact⟨⟨_,_,_,rfl⟩,a2T _ _⟩
   have hq:s.data.toList.getD i 0≠t.data.toList.getD k 0:=by rw[a2t s h1,a2t t h2];exact hb
   have hne:((s[i].toNat:Int) != (t[k].toNat:Int))=true:=by
    have hx:¬(s[i].toNat:Int)=(t[k].toNat:Int):=fun h=>hb (UInt8.toNat_inj.1 om);simp[hx]
   rw[if_pos ⟨h1,h2,hq⟩];clear hb hq;go_enter func182,ntmps182;go_wp2;go_quiet (fail)
   go_wp2;refine bodyPost_ret (v:=.tuple #[.int .i64 1,.int .i64 1,.int .i64 1,.bool true]) (by simp[results,results182,go_sem]) rfl ?_;exact⟨⟨1,1,rfl,rfl,rfl⟩,a2T _ _⟩
  have h2i:¬(k:Int)<(t.size:Int):=om;rw[if_neg (fun h=>h2 h.2.1)];go_enter func182,ntmps182;go_wp2;go_quiet (fail)
  go_wp2;refine bodyPost_ret (v:=.tuple #[.int .i64 1,.int .i64 1,.int .i64 1,.bool false]) (by simp[results,results182,go_sem]) rfl ?_;exact⟨⟨_,_,_,rfl⟩,a2T _ _⟩
 have h1i:¬(i:Int)<(s.size:Int):=om;rw[if_neg (fun h=>h1 h.1)];go_enter func182,ntmps182;go_wp2;go_quiet (fail)
 go_wp2;refine bodyPost_ret (v:=.tuple #[.int .i64 1,.int .i64 1,.int .i64 1,.bool false]) (by simp[results,results182,go_sem]) rfl ?_;exact⟨⟨_,_,_,rfl⟩,a2T _ _⟩
theorem anU(s t:ByteArray)(i k:Nat)(_hs:s.size<=20)(_ht:t.size<=20)(w:World):
  Calls prog 182 #[.string s,.string t,.int .i64 i,.int .i64 k,.int .i64 3,.agg #[.int .i64 1,.int .i64 1]] w (a5R i k (a1Y s.data.toList t.data.toList i k 3) w):=by
 rw[a6f];simp only[show¬(3=1) by decide,show¬(3=2) by decide,if_true,if_false];have hbw:Below w.heap.size w (w.alloc (.cells #[.int .i64 1,.int .i64 1] 176)):=(aoi _ _).alloc (aof _) _
 have HB:=hid hbw;clear hbw;by_cases h1:i<s.size
 ·have h1i:(i:Int)<(s.size:Int):=om;by_cases h2:k<t.size
  ·have h2i:(k:Int)<(t.size:Int):=om;rw[if_pos h1];go_enter func182,ntmps182;go_wp2;refine bodyPost_ret (v:=.tuple #[.int .i64 1,.int .i64 1,.int .i64 0,.bool true]) (by simp[results,results182,go_sem]) rfl ?_;exact⟨⟨1,0,rfl,rfl,rfl⟩,HB.out⟩
  have h2i:¬(k:Int)<(t.size:Int):=om;rw[if_pos h1];go_enter func182,ntmps182;go_wp2;refine bodyPost_ret (v:=.tuple #[.int .i64 1,.int .i64 1,.int .i64 0,.bool true]) (by simp[results,results182,go_sem]) rfl ?_;exact⟨⟨1,0,rfl,rfl,rfl⟩,HB.out⟩
 have h1i:¬(i:Int)<(s.size:Int):=om;by_cases h2:k<t.size
 ·have h2i:(k:Int)<(t.size:Int):=om;rw[if_neg h1];go_enter func182,ntmps182;go_wp2;refine bodyPost_ret (v:=.tuple #[.int .i64 1,.int .i64 1,.int .i64 0,.bool false]) (by simp[results,results182,go_sem]) rfl ?_;exact⟨⟨_,_,_,rfl⟩,HB.out⟩
 have h2i:¬(k:Int)<(t.size:Int):=om;rw[if_neg h1];go_enter func182,ntmps182;go_wp2;refine bodyPost_ret (v:=.tuple #[.int .i64 1,.int .i64 1,.int .i64 0,.bool false]) (by simp[results,results182,go_sem]) rfl ?_;exact⟨⟨_,_,_,rfl⟩,HB.out⟩
theorem anV(s t:ByteArray)(i k:Nat)(_hs:s.size<=20)(_ht:t.size<=20)(w:World):
  Calls prog 182 #[.string s,.string t,.int .i64 i,.int .i64 k,.int .i64 4,.agg #[.int .i64 1,.int .i64 1]] w (a5R i k (a1Y s.data.toList t.data.toList i k 4) w):=by
 rw[a6f];simp only[show¬(4=1) by decide,show¬(4=2) by decide,show¬(4=3) by decide,if_false];have hbw:Below w.heap.size w (w.alloc (.cells #[.int .i64 1,.int .i64 1] 176)):=(aoi _ _).alloc (aof _) _
 have HB:=hid hbw;clear hbw;by_cases h1:i<s.size
 ·have h1i:(i:Int)<(s.size:Int):=om;by_cases h2:k<t.size
  ·have h2i:(k:Int)<(t.size:Int):=om;rw[if_pos h2];go_enter func182,ntmps182;go_wp2;refine bodyPost_ret (v:=.tuple #[.int .i64 1,.int .i64 0,.int .i64 1,.bool true]) (by simp[results,results182,go_sem]) rfl ?_;exact⟨⟨0,1,rfl,rfl,rfl⟩,HB.out⟩
  have h2i:¬(k:Int)<(t.size:Int):=om;rw[if_neg h2];go_enter func182,ntmps182;go_wp2;refine bodyPost_ret (v:=.tuple #[.int .i64 1,.int .i64 0,.int .i64 1,.bool false]) (by simp[results,results182,go_sem]) rfl ?_;exact⟨⟨_,_,_,rfl⟩,HB.out⟩
 have h1i:¬(i:Int)<(s.size:Int):=om;by_cases h2:k<t.size
 ·have h2i:(k:Int)<(t.size:Int):=om;rw[if_pos h2];go_enter func182,ntmps182;go_wp2;refine bodyPost_ret (v:=.tuple #[.int .i64 1,.int .i64 0,.int .i64 1,.bool true]) (by simp[results,results182,go_sem]) rfl ?_;exact⟨⟨0,1,rfl,rfl,rfl⟩,HB.out⟩
 have h2i:¬(k:Int)<(t.size:Int):=om;rw[if_neg h2];go_enter func182,ntmps182;go_wp2;refine bodyPost_ret (v:=.tuple #[.int .i64 1,.int .i64 0,.int .i64 1,.bool false]) (by simp[results,results182,go_sem]) rfl ?_;exact⟨⟨_,_,_,rfl⟩,HB.out⟩
end Go.Proofs.YtdfkaijeppdhaaaGreatDoor
namespace Go.Proofs.YtdfkaijeppdhaaaGreatDoor
open Lib (hid)
open Proofs.Tryz Go.RowKit Go.Shelf
attribute [local go_sem] Oper.semAt_some
def a12(s t:List UInt8)(i k:Nat):Nat->List Stp
 |0=>[]
 |e+1=>a12 s t i k e++(a1Y s t i k (e+1)).toList
theorem a9R(s t:List UInt8)(i k:Nat):a12 s t i k 4=a0t s t i k:=by
 unfold a12 a12 a12 a12 a12 a1Y a0t;simp only[if_true,show¬((0:Nat)+1+1=1) by decide,show¬((0:Nat)+1+1+1=1) by decide,show¬((0:Nat)+1+1+1=2) by decide,show¬((0:Nat)+1+1+1+1=1) by decide,show¬((0:Nat)+1+1+1+1=2) by decide,show¬((0:Nat)+1+1+1+1=3) by decide,if_false];generalize s.getD i 0=a;generalize t.getD k 0=b;by_cases h1:i<s.length<;>by_cases h2:k<t.length<;>by_cases h3:a=b<;>simp[h1,h2,h3]
theorem alR(s t:List UInt8)(i k e:Nat)(he:e<=4):∀x∈a12 s t i k e,x∈a0t s t i k:=by
 rw[<-a9R]
 have h:∀d,e+d<=4->∀x∈a12 s t i k e,x∈a12 s t i k (e+d):=by
  intro d;induction d with
  |zero=>exact fun _ x hx=>hx
  |succ d ih=>exact fun hd x hx=>List.mem_append_left _ (ih om x hx)
 have:=h (4-e) om;rwa[show e+(4-e)=4 by omega]at this
theorem ak6{s t:List UInt8}{i k e:Nat}{x:Stp}(he:e<4)(h:a1Y s t i k (e+1)=some x):x∈a0t s t i k:=
 alR s t i k (e+1) om x (by unfold a12;rw[h];simp)
theorem alS(s t:ByteArray)(i k e:Nat)(he:e<4)(hs:s.size<=20)(ht:t.size<=20)(w:World):
  Calls prog 182 #[.string s,.string t,.int .i64 i,.int .i64 k,.int .i64 ((e:Int)+1),.agg #[.int .i64 1,.int .i64 1]] w (a5R i k (a1Y s.data.toList t.data.toList i k (e+1)) w):=by
 rcases (show e=0\/e=1\/e=2\/e=3 by omega)with rfl|rfl|rfl|rfl
 ·exact anS s t i k hs ht w
 ·exact anT s t i k hs ht w
 ·exact anU s t i k hs ht w
 exact anV s t i k hs ht w
theorem Tryz.infoInts2:(prog.info? 122).map (fun i=>(i.zero,i.size,i.bytes))=some (some (.slice none 0 0),1,24):=ot
def zI(N:Nat):Array Value:=madeCells (Value.int .i64 0).cells (N * 1)
def zIs(N:Nat):Array Value:=madeCells (Value.slice none 0 0).cells (N * 1)
theorem anl(N:Nat):(zI N).size=N * 1:=by simp[zI,madeCells]
theorem aeA(N:Nat):(zIs N).size=N:=by simp[zIs,madeCells]
theorem ao9{N j:Nat}(h:j<N):(zI N)[j]? =some (.int .i64 0):=by
 unfold zI madeCells;simp[Value.cells,Nat.mod_one,h]
theorem alT(N:Nat)(hN:N<=100)(W:World):(Instr.makeSlice 122 (.int .i64 (N:Int)) (.int .i64 (N:Int))).run prog W= .ok (.slice (some ⟨W.heap.size,0,none⟩) N N) (W.alloc (.cells (zI N) 3)):=by
 obtain⟨i,h1,h2,h3,h4⟩:=info_parts Tryz.infoInt;have:=run_make (P:=prog) W 122 3 i (.int .i64 0) underlying122 h1 h2 .i64 .i64 N N om (aoR _) (by rw[h4];omega) om
 rw[h3]at this;simpa [zI]using this
theorem ak7(N:Nat)(hN:N<=100)(W:World):(Instr.makeSlice 168 (.int .i64 (N:Int)) (.int .i64 (N:Int))).run prog W= .ok (.slice (some ⟨W.heap.size,0,none⟩) N N) (W.alloc (.cells (zIs N) 122)):=by
 obtain⟨i,h1,h2,h3,h4⟩:=info_parts Tryz.infoInts2;have:=run_make (P:=prog) W 168 122 i (.slice none 0 0) underlying168 h1 h2 .i64 .i64 N N om (aoR _) (by rw[h4];omega) om
 rw[h3]at this;simpa [zIs]using this
def okC(s t:ByteArray)(i k _e:Nat)(v:Value):Prop:=v= .int .i64 (cst s.data.toList t.data.toList i k:Nat)
def okW(_i _k _e:Nat)(v:Value):Prop:=∃y:Int,v= .int .i64 y
abbrev aeB(n m n0 O:Nat)(OK:Nat->Nat->Nat->Value->Prop):=Tab 122 3 1 n0 O n m OK
structure LfW(s t:ByteArray)(w:World)(n0 O1 O2:Nat)(G1 G2:Nat->Nat)(lo kk:Nat)(W:World):Prop where
 p:W.heap[n0]? =some (.cells #[.int .i64 1,.int .i64 1] 176 (0,0))
 t1:aeB s.size t.size n0 O1 (okC s t) G1 lo kk W
 t2:aeB s.size t.size n0 O2 okW G2 lo kk W
 ne:O1≠O2
 sep:∀i j,lo<=i->i<=s.size->lo<=j->j<=s.size->G1 i≠G2 j
 bel:Below n0 w W
 zero:lo=s.size->kk=t.size+1->W.cell? ⟨G1 lo,t.size,none⟩=some (.int .i64 0)
section
variable{s t:ByteArray}{w:World}{n0 O1 O2:Nat}{G1 G2:Nat->Nat}{lo kk:Nat}{W W':World}
theorem LfW.keep(h:LfW s t w n0 O1 O2 G1 G2 lo kk W)(hb:Below W.heap.size W W'):LfW s t w n0 O1 O2 G1 G2 lo kk W':=
 ⟨(hb.block _ (aog.1 h.p).1).trans h.p,h.t1.below hb,h.t2.below hb,h.ne,h.sep,h.bel.trans (hb.mono (apG (aog.1 h.p).1)),fun h1 h2=>keep_cell hb (h.zero h1 h2)⟩
theorem a1k{W:World}{a b:Nat}{A B:Array Value}{T U:TypeId}{f g:Nat×Nat}(h1:W.heap[a]? =some (.cells A T f))(h2:W.heap[b]? =some (.cells B U g))(h:T≠U):a≠b:=fun e=>by
 subst e;rw[h1]at h2;simp only[Option.some.injEq,Obj.cells.injEq]at h2;exact h h2.2.1
theorem Tab.rowsAt{TO TG:TypeId}{E base O n m:Nat}{OK:Nat->Nat->Nat->Value->Prop}{G:Nat->Nat}{lo kk:Nat}{w:World}(h:Tab TO TG E base O n m OK G lo kk w):∃A,w.heap[O]? =some (.cells A TO (0,0)):=by
 obtain⟨A,h1,_⟩:=h.rows;exact⟨A,h1⟩
theorem Tab.rowAt{TO TG:TypeId}{E base O n m:Nat}{OK:Nat->Nat->Nat->Value->Prop}{G:Nat->Nat}{lo kk:Nat}{w:World}(h:Tab TO TG E base O n m OK G lo kk w){i:Nat}(h1:lo<=i)(h2:i<=n):∃A,w.heap[G i]? =some (.cells A TG (0,0))/\A.size=(m+1) * E:=by
 obtain⟨A,h3,h4,_⟩:=h.row i h1 h2;exact⟨A,h3,h4⟩
theorem LfW.start(hp:W.heap[n0]? =some (.cells #[.int .i64 1,.int .i64 1] 176 (0,0)))(h1:W.heap[O1]? =some (.cells (zIs (s.size+1)) 122 (0,0)))(h2:W.heap[O2]? =some (.cells (zIs (s.size+1)) 122 (0,0)))(hne:O1≠O2)(hb1:n0<=O1)(hb2:n0<=O2)(hb:Below n0 w W):
  LfW s t w n0 O1 O2 (fun _=>0) (fun _=>0) (s.size+1) 0 W:=
 ⟨hp,Tab.start h1 (aeA _) hb1 _ _,Tab.start h2 (aeA _) hb2 _ _,hne,fun i j h3 h4=>om,hb,fun h=>om⟩
theorem LfW.more{g1 g2:Nat}(h:LfW s t w n0 O1 O2 G1 G2 (lo+1) 0 W)(hlo:lo<=s.size)(hg1:W.heap.size<=g1)(hg2:W.heap.size<=g2)(hg:g1≠g2)
  (k1:W'.heap[g1]? =some (.cells (zI (t.size+1)) 3 (0,0)))(k2:W'.heap[g2]? =some (.cells (zI (t.size+1)) 3 (0,0)))
  (k3:∀A,W.heap[O1]? =some (.cells A 122 (0,0))->W'.heap[O1]? =some (.cells (A.setIfInBounds lo (.slice (some ⟨g1,0,none⟩) (t.size+1) (t.size+1))) 122 (0,0)))
  (k4:∀A,W.heap[O2]? =some (.cells A 122 (0,0))->W'.heap[O2]? =some (.cells (A.setIfInBounds lo (.slice (some ⟨g2,0,none⟩) (t.size+1) (t.size+1))) 122 (0,0)))
  (hk:∀k,k<W.heap.size->k≠O1->k≠O2->W'.heap[k]? =W.heap[k]?)(hb:Below n0 w W'):LfW s t w n0 O1 O2 (a2H G1 lo g1) (a2H G2 lo g2) lo (t.size+1) W':=by
 obtain⟨A1,hA1⟩:=h.t1.rowsAt;obtain⟨A2,hA2⟩:=h.t2.rowsAt;have hpl:=(aog.1 h.p).1
 have keepT:∀{O O':Nat} {OK} {G:Nat->Nat} {g:Nat} (hT:aeB s.size t.size n0 O OK G (lo+1) 0 W),O≠O'->(∀A,W.heap[O]? =some (.cells A 122 (0,0))->W'.heap[O]? =some (.cells (A.setIfInBounds lo (.slice (some ⟨g,0,none⟩) (t.size+1) (t.size+1))) 122 (0,0)))->
   (∃A,W.heap[O']? =some (.cells A 122 (0,0)))->(∀k,k<W.heap.size->k≠O->k≠O'->W'.heap[k]? =W.heap[k]?)->W.heap.size<=g->W'.heap[g]? =some (.cells (zI (t.size+1)) 3 (0,0))->aeB s.size t.size n0 O OK (a2H G lo g) lo (t.size+1) W':=by
  rintro O O' OK G g hT hne hO ⟨A',hA'⟩ hk hgs hg9;have hOl:=hT.lt;refine⟨?_,fun i h1 h2=>?_,fun i h1 h2=>?_,fun i j h1 h2 h3 h4 h5=>?_,hT.top⟩
  ·obtain⟨A,h1,h2,h3⟩:=hT.rows;refine⟨_,hO A h1,by simpa using h2,fun i h4 h5=>?_⟩;by_cases e:i=lo
   ·subst e;rw[a1n,app om]
   rw[a0N _ _ e,apb om];exact h3 i om h5
  ·by_cases e:i=lo
   ·subst e;rw[a1n];exact⟨_,hg9,anl _,fun k e h3 h4 h5=>om⟩
   rw[a0N _ _ e];have hl:=hT.ltG (i:=i) om h2;obtain⟨A,h3,h4,h5⟩:=hT.row i om h2;exact⟨A,(hk _ hl (hT.sep i om h2).1 (a1k h3 hA' ox)).trans h3,h4,fun k e h6 h7 _=>h5 k e h6 h7 (.inr (aot _))⟩
  ·by_cases e:i=lo
   ·subst e;rw[a1n];have:=hT.top;omega
   rw[a0N _ _ e];exact hT.sep i om h2
  by_cases e:i=lo
  ·subst e;rw[a1n,a0N _ _ (Ne.symm h5)];have:=hT.ltG (i:=j) om h4;omega
  by_cases e2:j=lo
  ·subst e2;rw[a1n,a0N _ _ e];have:=hT.ltG (i:=i) om h2;omega
  rw[a0N _ _ e,a0N _ _ e2];exact hT.inj i j om h2 om h4 h5
 refine⟨(hk _ hpl (a1k h.p hA1 ox) (a1k h.p hA2 ox)).trans h.p,keepT h.t1 h.ne k3 ⟨A2,hA2⟩ hk hg1 k1,keepT h.t2 (Ne.symm h.ne) k4 ⟨A1,hA1⟩ (fun k a b c=>hk k a c b) hg2 k2,h.ne,fun i j h1 h2 h3 h4=>?_,hb,fun h1 _=>?_⟩
 ·by_cases e:i=lo
  ·subst e;rw[a1n];by_cases e2:j=i
   ·subst e2;rw[a1n];exact hg
   rw[a0N _ _ e2];have:=h.t2.ltG (i:=j) om h4;omega
  rw[a0N _ _ e];have:=h.t1.ltG (i:=i) om h2;by_cases e2:j=lo
  ·subst e2;rw[a1n];omega
  rw[a0N _ _ e2];exact h.sep i j om h2 om h4
 rw[a1n];exact heap_cell k1 (ao9 om)
theorem aeC{W:World}{g j:Nat}{A:Array Value}{T:TypeId}{f:Nat×Nat}(h:W.heap[g]? =some (.cells A T f)):W.cell? ⟨g,j,none⟩=A[j]? :=by simp[World.cell?,h]
theorem Tab.poke{TO TG:TypeId}{E base O n m:Nat}{OK:Nat->Nat->Nat->Value->Prop}{G:Nat->Nat}{lo kk:Nat}{w w':World}(h:Tab TO TG E base O n m OK G lo (kk+1) w)(hlo:lo<=n)
  (hG:∀A,w.heap[G lo]? =some (.cells A TG (0,0))->∃B,w'.heap[G lo]? =some (.cells B TG (0,0))/\B.size=A.size/\∀j,(j<kk * E\/(kk+1) * E<=j)->B[j]? =A[j]?)
  (hO:w'.heap[O]? =w.heap[O]?)(hk:∀i,lo<i->i<=n->w'.heap[G i]? =w.heap[G i]?):Tab TO TG E base O n m OK G lo (kk+1) w':=by
 refine⟨?_,fun i h1 h2=>?_,h.sep,h.inj,h.top⟩
 ·obtain⟨A,h1,h2⟩:=h.rows;exact⟨A,hO.trans h1,h2⟩
 obtain⟨A,h3,h4,h5⟩:=h.row i h1 h2;by_cases e:i=lo
 ·subst e;obtain⟨B,h6,h7,h8⟩:=hG A h3;refine⟨B,h6,h7.trans h4,fun k e h9 h10 h11=>?_⟩;have hle:(kk+1) * E<=k * E:=apC _ om;rw[h8 _ (.inr om)];exact h5 k e h9 h10 h11
 exact⟨A,(hk i om h2).trans h3,h4,h5⟩
theorem Tab.fill{TO TG:TypeId}{base O n m:Nat}{OK:Nat->Nat->Nat->Value->Prop}{G:Nat->Nat}{lo kk:Nat}{w:World}(h:Tab TO TG 1 base O n m OK G lo (kk+1) w)(hlo:lo<=n)(hkk:kk<=m){v:Value}(hc:w.cell? ⟨G lo,kk,none⟩=some v)(hv:OK lo kk 0 v):Tab TO TG 1 base O n m OK G lo kk w:=
 h.put hlo hkk (fun A hA=>⟨A,hA,rfl,fun _ _=>rfl,fun e he=>by
  obtain rfl:e=0:=om;exact⟨v,by rw[Nat.mul_one,apM,<-aeC hA];exact hc,hv⟩⟩) (fun _ _ _=>rfl)
theorem LfW.poke(h:LfW s t w n0 O1 O2 G1 G2 lo (kk+1) W)(hlo:lo<=s.size)(hz:¬(lo=s.size/\kk=t.size))(v1 v2:Value):
  LfW s t w n0 O1 O2 G1 G2 lo (kk+1) ((W.setCell ⟨G1 lo,kk,none⟩ v1).setCell ⟨G2 lo,kk,none⟩ v2):=by
 obtain⟨R1,hR1,_⟩:=h.t1.rowAt (aof _) hlo;obtain⟨R2,hR2,_⟩:=h.t2.rowAt (aof _) hlo;obtain⟨A1,hA1⟩:=h.t1.rowsAt;obtain⟨A2,hA2⟩:=h.t2.rowsAt;have hsep:=h.sep lo lo (aof _) hlo (aof _) hlo;have hk:∀k,k≠G1 lo->k≠G2 lo->((W.setCell ⟨G1 lo,kk,none⟩ v1).setCell ⟨G2 lo,kk,none⟩ v2).heap[k]? =W.heap[k]? :=fun k h1 h2=>(a01 h2).trans (a01 h1)
 refine⟨(hk _ (a1k h.p hR1 ox) (a1k h.p hR2 ox)).trans h.p,
  h.t1.poke hlo (fun A hA=>⟨_,(a01 hsep).trans (a0p hA),by simp,fun j hj=>by rw[apb om]⟩) (hk _ (a1k hA1 hR1 ox) (a1k hA1 hR2 ox)) (fun i h1 h2=>hk _ (h.t1.inj i lo om h2 (aof _) hlo om) (h.sep i lo om h2 (aof _) hlo)),
  h.t2.poke hlo (fun A hA=>⟨_,a0p ((a01 (Ne.symm hsep)).trans hA),by simp,fun j hj=>by rw[apb om]⟩) (hk _ (a1k hA2 hR1 ox) (a1k hA2 hR2 ox)) (fun i h1 h2=>hk _ (Ne.symm (h.sep lo i (aof _) hlo om h2)) (h.t2.inj i lo om h2 (aof _) hlo om)),
  h.ne,h.sep,(h.bel.setCell (p:=⟨G1 lo,kk,none⟩) (h.t1.sep lo (aof _) hlo).2 _).setCell (p:=⟨G2 lo,kk,none⟩) (h.t2.sep lo (aof _) hlo).2 _,fun h1 h2=>absurd ⟨h1,om⟩ hz⟩
theorem LfW.poke2(h:LfW s t w n0 O1 O2 G1 G2 lo (kk+1) W)(hlo:lo<=s.size)(v2:Value):
  LfW s t w n0 O1 O2 G1 G2 lo (kk+1) (W.setCell ⟨G2 lo,kk,none⟩ v2):=by
 obtain⟨R1,hR1,_⟩:=h.t1.rowAt (aof _) hlo;obtain⟨R2,hR2,_⟩:=h.t2.rowAt (aof _) hlo;obtain⟨A1,hA1⟩:=h.t1.rowsAt;obtain⟨A2,hA2⟩:=h.t2.rowsAt;have hk:∀k,k≠G2 lo->(W.setCell ⟨G2 lo,kk,none⟩ v2).heap[k]? =W.heap[k]? :=fun k h2=>a01 h2
 have h1k:∀i,lo<=i->i<=s.size->(W.setCell ⟨G2 lo,kk,none⟩ v2).heap[G1 i]? =W.heap[G1 i]? :=fun i h1 h2=>hk _ (h.sep i lo h1 h2 (aof _) hlo)
 refine⟨(hk _ (a1k h.p hR2 ox)).trans h.p,h.t1.keep (hk _ (a1k hA1 hR2 ox)) h1k,
  h.t2.poke hlo (fun A hA=>⟨_,a0p hA,by simp,fun j hj=>by rw[apb om]⟩) (hk _ (a1k hA2 hR2 ox)) (fun i h1 h2=>hk _ (h.t2.inj i lo om h2 (aof _) hlo om)),
  h.ne,h.sep,h.bel.setCell (p:=⟨G2 lo,kk,none⟩) (h.t2.sep lo (aof _) hlo).2 _,fun h1 h2=>(World.cell?_of_block (h1k lo (aof _) hlo)).trans (h.zero h1 h2)⟩
theorem LfW.fill(h:LfW s t w n0 O1 O2 G1 G2 lo (kk+1) W)(hlo:lo<=s.size)(hkk:kk<=t.size)(h1:W.cell? ⟨G1 lo,kk,none⟩=some (.int .i64 (cst s.data.toList t.data.toList lo kk:Nat))){y:Int}(h2:W.cell? ⟨G2 lo,kk,none⟩=some (.int .i64 y)):
  LfW s t w n0 O1 O2 G1 G2 lo kk W:=⟨h.p,h.t1.fill hlo hkk h1 rfl,h.t2.fill hlo hkk h2 ⟨y,rfl⟩,h.ne,h.sep,h.bel,fun _ h3=>om⟩
end
theorem LfW.swap{s t:ByteArray}{w:World}{n0 O1 O2:Nat}{W:World}(h:LfW s t w n0 O1 O2 (fun _=>0) (fun _=>0) (s.size+1) 0 W):LfW s t w n0 O2 O1 (fun _=>0) (fun _=>0) (s.size+1) 0 W:=by
 obtain⟨A1,h1,h2,_⟩:=h.t1.rows;obtain⟨A2,h3,h4,_⟩:=h.t2.rows;exact⟨h.p,Tab.start h3 h4 h.t2.top _ _,Tab.start h1 h2 h.t1.top _ _,Ne.symm h.ne,fun i j h3 h4=>om,h.bel,fun h=>om⟩
theorem acL{s t:ByteArray}{w W0:World}{n0:Nat}(hp:W0.heap[n0]? =some (.cells #[.int .i64 1,.int .i64 1] 176 (0,0)))(hb:Below n0 w W0)(hz:n0<=W0.heap.size):
  LfW s t w n0 W0.heap.size (W0.heap.size+1) (fun _=>0) (fun _=>0) (s.size+1) 0 ((W0.alloc (.cells (zIs (s.size+1)) 122)).alloc (.cells (zIs (s.size+1)) 122)).drew:=by
 have h2:=World.alloc_heap_new (W0.alloc (.cells (zIs (s.size+1)) 122)) (.cells (zIs (s.size+1)) 122);rw[aoq]at h2;refine LfW.start ?_ ?_ h2 om hz om ((hb.alloc hz _).alloc km _).drew
 ·exact(aop _ _ _ (by have:=(aog.1 hp).1;simp;omega)).trans ((aop _ _ _ (aog.1 hp).1).trans hp)
 exact(aop _ _ _ oz).trans (World.alloc_heap_new W0 _)
section
variable{s t:ByteArray}{w:World}{n0 O1 O2:Nat}{G1 G2:Nat->Nat}{lo:Nat}{W:World}
theorem anW(h:LfW s t w n0 O1 O2 G1 G2 (lo+1) 0 W)(hlo:lo<=s.size):LfW s t w n0 O1 O2 (a2H G1 lo W.heap.size) (a2H G2 lo (W.heap.size+1)) lo (t.size+1)
  ((((W.alloc (.cells (zI (t.size+1)) 3)).alloc (.cells (zI (t.size+1)) 3)).setCell ⟨O1,lo,none⟩ (.slice (some ⟨W.heap.size,0,none⟩) (t.size+1) (t.size+1))).setCell ⟨O2,lo,none⟩ (.slice (some ⟨W.heap.size+1,0,none⟩) (t.size+1) (t.size+1))).drew:=by
 have l1:=h.t1.lt;have l2:=h.t2.lt;have n1:=World.alloc_heap_new (W.alloc (.cells (zI (t.size+1)) 3)) (.cells (zI (t.size+1)) 3);rw[aoq]at n1;have hal:∀k,k<W.heap.size->((W.alloc (.cells (zI (t.size+1)) 3)).alloc (.cells (zI (t.size+1)) 3)).heap[k]? =W.heap[k]? :=fun k hk=>(aop _ _ _ km).trans (aop _ _ _ hk)
 have n0':=(aop (W.alloc (.cells (zI (t.size+1)) 3)) (.cells (zI (t.size+1)) 3) W.heap.size oz).trans (World.alloc_heap_new W _)
 have hz:=apG (aog.1 h.p).1
 refine h.more hlo (aof _) om om ((a01 om).trans ((a01 om).trans n0')) ((a01 om).trans ((a01 om).trans n1))
  (fun A hA=>(a01 h.ne).trans (a0p ((hal _ l1).trans hA))) (fun A hA=>a0p ((a01 (Ne.symm h.ne)).trans ((hal _ l2).trans hA))) (fun k h1 h2 h3=>(a01 h3).trans ((a01 h2).trans (hal k h1))) ?_
 exact((((h.bel.alloc hz _).alloc km _).setCell (p:=⟨O1,lo,none⟩) h.t1.top _).setCell (p:=⟨O2,lo,none⟩) h.t2.top _).drew
theorem anX(h:LfW s t w n0 O1 O2 G1 G2 (lo+1) 0 W)(hlo:lo<=s.size):LfW s t w n0 O1 O2 (a2H G1 lo (W.heap.size+1)) (a2H G2 lo W.heap.size) lo (t.size+1)
  ((((W.alloc (.cells (zI (t.size+1)) 3)).alloc (.cells (zI (t.size+1)) 3)).setCell ⟨O1,lo,none⟩ (.slice (some ⟨W.heap.size+1,0,none⟩) (t.size+1) (t.size+1))).setCell ⟨O2,lo,none⟩ (.slice (some ⟨W.heap.size,0,none⟩) (t.size+1) (t.size+1))).drew:=by
 have l1:=h.t1.lt;have l2:=h.t2.lt;have n1:=World.alloc_heap_new (W.alloc (.cells (zI (t.size+1)) 3)) (.cells (zI (t.size+1)) 3);rw[aoq]at n1;have hal:∀k,k<W.heap.size->((W.alloc (.cells (zI (t.size+1)) 3)).alloc (.cells (zI (t.size+1)) 3)).heap[k]? =W.heap[k]? :=fun k hk=>(aop _ _ _ km).trans (aop _ _ _ hk)
 have n0':=(aop (W.alloc (.cells (zI (t.size+1)) 3)) (.cells (zI (t.size+1)) 3) W.heap.size oz).trans (World.alloc_heap_new W _)
 have hz:=apG (aog.1 h.p).1
 refine h.more hlo om (aof _) om ((a01 om).trans ((a01 om).trans n1)) ((a01 om).trans ((a01 om).trans n0'))
  (fun A hA=>(a01 h.ne).trans (a0p ((hal _ l1).trans hA))) (fun A hA=>a0p ((a01 (Ne.symm h.ne)).trans ((hal _ l2).trans hA))) (fun k h1 h2 h3=>(a01 h3).trans ((a01 h2).trans (hal k h1))) ?_
 exact((((h.bel.alloc hz _).alloc km _).setCell (p:=⟨O1,lo,none⟩) h.t1.top _).setCell (p:=⟨O2,lo,none⟩) h.t2.top _).drew
theorem anY(h:LfW s t w n0 O1 O2 G1 G2 (lo+1) 0 W)(hlo:lo<=s.size):LfW s t w n0 O1 O2 (a2H G1 lo W.heap.size) (a2H G2 lo (W.heap.size+1)) lo (t.size+1)
  ((((W.alloc (.cells (zI (t.size+1)) 3)).setCell ⟨O1,lo,none⟩ (.slice (some ⟨W.heap.size,0,none⟩) (t.size+1) (t.size+1))).alloc (.cells (zI (t.size+1)) 3)).setCell ⟨O2,lo,none⟩ (.slice (some ⟨W.heap.size+1,0,none⟩) (t.size+1) (t.size+1))).drew:=by
 have l1:=h.t1.lt;have l2:=h.t2.lt;have n1:=World.alloc_heap_new ((W.alloc (.cells (zI (t.size+1)) 3)).setCell ⟨O1,lo,none⟩ (.slice (some ⟨W.heap.size,0,none⟩) (t.size+1) (t.size+1))) (.cells (zI (t.size+1)) 3);rw[aos,aoq]at n1;have hz:=apG (aog.1 h.p).1
 have al2:∀k,k<W.heap.size+1->(((W.alloc (.cells (zI (t.size+1)) 3)).setCell ⟨O1,lo,none⟩ (.slice (some ⟨W.heap.size,0,none⟩) (t.size+1) (t.size+1))).alloc (.cells (zI (t.size+1)) 3)).heap[k]? =((W.alloc (.cells (zI (t.size+1)) 3)).setCell ⟨O1,lo,none⟩ (.slice (some ⟨W.heap.size,0,none⟩) (t.size+1) (t.size+1))).heap[k]? :=fun k hk=>aop _ _ _ km
 refine h.more hlo (aof _) om om ((a01 om).trans ((al2 _ om).trans ((a01 om).trans (World.alloc_heap_new W _)))) ((a01 om).trans n1)
  (fun A hA=>(a01 h.ne).trans ((al2 _ om).trans (a0p ((aop _ _ _ l1).trans hA)))) (fun A hA=>a0p ((al2 _ om).trans ((a01 (Ne.symm h.ne)).trans ((aop _ _ _ l2).trans hA)))) (fun k h1 h2 h3=>(a01 h3).trans ((al2 _ om).trans ((a01 h2).trans (aop _ _ _ h1)))) ?_
 exact((((h.bel.alloc hz _).setCell (p:=⟨O1,lo,none⟩) h.t1.top _).alloc km _).setCell (p:=⟨O2,lo,none⟩) h.t2.top _).drew
end
def lfZ(s t:ByteArray)(n0 O1 O2:Nat)(u:Nat->Value):Act:=
 {tmps:=#[.string s,.string t,(u 2),(u 3),(u 4),.pointer (some ⟨n0,0,none⟩),.slice (some ⟨O1,0,none⟩) (s.size+1) (s.size+1),.slice (some ⟨O2,0,none⟩) (s.size+1) (s.size+1),(u 8),(u 9),(u 10),(u 11),(u 12),(u 13),(u 14),(u 15),(u 16),(u 17),(u 18),(u 19),(u 20),(u 21),(u 22),(u 23),(u 24),(u 25),(u 26),(u 27),(u 28),(u 29),(u 30),(u 31),(u 32),(u 33),(u 34),(u 35),(u 36),(u 37),(u 38),(u 39),(u 40),(u 41),(u 42),(u 43),(u 44),(u 45),(u 46),(u 47),(u 48),(u 49),(u 50),(u 51),(u 52),(u 53),(u 54),(u 55),(u 56),(u 57),(u 58),(u 59),(u 60),(u 61),(u 62),(u 63),(u 64),(u 65),(u 66),(u 67),(u 68),(u 69),(u 70),(u 71),(u 72),(u 73),(u 74),(u 75),(u 76),(u 77),(u 78),(u 79),(u 80),(u 81),(u 82),(u 83),(u 84),(u 85),(u 86),(u 87),(u 88),(u 89),(u 90),(u 91),(u 92),(u 93),(u 94),(u 95),(u 96),(u 97),(u 98),(u 99),(u 100),(u 101),(u 102),(u 103),(u 104),(u 105),(u 106),(u 107),(u 108),(u 109),(u 110),(u 111),(u 112),(u 113),(u 114),(u 115),(u 116),(u 117),(u 118),(u 119),(u 120),(u 121),(u 122),(u 123),(u 124),(u 125),(u 126),(u 127),(u 128),(u 129),(u 130),(u 131),(u 132),(u 133),(u 134),(u 135),(u 136),(u 137),(u 138),(u 139),(u 140),(u 141),(u 142),(u 143),(u 144),(u 145),(u 146),(u 147),(u 148),(u 149),(u 150),(u 151),(u 152),(u 153),(u 154),(u 155),(u 156),(u 157),(u 158),(u 159),(u 160),(u 161),(u 162),(u 163),(u 164),(u 165),(u 166)],defers:=[]}
def lfO(s t:ByteArray)(n0 O1 O2:Nat)(i:Int)(u:Nat->Value):Act:=
 {tmps:=#[.string s,.string t,(u 2),(u 3),(u 4),.pointer (some ⟨n0,0,none⟩),.slice (some ⟨O1,0,none⟩) (s.size+1) (s.size+1),.slice (some ⟨O2,0,none⟩) (s.size+1) (s.size+1),.int .i64 i,(u 9),(u 10),(u 11),(u 12),(u 13),(u 14),(u 15),(u 16),(u 17),(u 18),(u 19),(u 20),(u 21),(u 22),(u 23),(u 24),(u 25),(u 26),(u 27),(u 28),(u 29),(u 30),(u 31),(u 32),(u 33),(u 34),(u 35),(u 36),(u 37),(u 38),(u 39),(u 40),(u 41),(u 42),(u 43),(u 44),(u 45),(u 46),(u 47),(u 48),(u 49),(u 50),(u 51),(u 52),(u 53),(u 54),(u 55),(u 56),(u 57),(u 58),(u 59),(u 60),(u 61),(u 62),(u 63),(u 64),(u 65),(u 66),(u 67),(u 68),(u 69),(u 70),(u 71),(u 72),(u 73),(u 74),(u 75),(u 76),(u 77),(u 78),(u 79),(u 80),(u 81),(u 82),(u 83),(u 84),(u 85),(u 86),(u 87),(u 88),(u 89),(u 90),(u 91),(u 92),(u 93),(u 94),(u 95),(u 96),(u 97),(u 98),(u 99),(u 100),(u 101),(u 102),(u 103),(u 104),(u 105),(u 106),(u 107),(u 108),(u 109),(u 110),(u 111),(u 112),(u 113),(u 114),(u 115),(u 116),(u 117),(u 118),(u 119),(u 120),(u 121),(u 122),(u 123),(u 124),(u 125),(u 126),(u 127),(u 128),(u 129),(u 130),(u 131),(u 132),(u 133),(u 134),(u 135),(u 136),(u 137),(u 138),(u 139),(u 140),(u 141),(u 142),(u 143),(u 144),(u 145),(u 146),(u 147),(u 148),(u 149),(u 150),(u 151),(u 152),(u 153),(u 154),(u 155),(u 156),(u 157),(u 158),(u 159),(u 160),(u 161),(u 162),(u 163),(u 164),(u 165),(u 166)],defers:=[]}
def lfI(s t:ByteArray)(n0 O1 O2:Nat)(i k:Int)(u:Nat->Value):Act:=
 {tmps:=#[.string s,.string t,(u 2),(u 3),(u 4),.pointer (some ⟨n0,0,none⟩),.slice (some ⟨O1,0,none⟩) (s.size+1) (s.size+1),.slice (some ⟨O2,0,none⟩) (s.size+1) (s.size+1),.int .i64 i,.int .i64 k,(u 10),(u 11),(u 12),(u 13),(u 14),(u 15),(u 16),(u 17),(u 18),(u 19),(u 20),(u 21),(u 22),(u 23),(u 24),(u 25),(u 26),(u 27),(u 28),(u 29),(u 30),(u 31),(u 32),(u 33),(u 34),(u 35),(u 36),(u 37),(u 38),(u 39),(u 40),(u 41),(u 42),(u 43),(u 44),(u 45),(u 46),(u 47),(u 48),(u 49),(u 50),(u 51),(u 52),(u 53),(u 54),(u 55),(u 56),(u 57),(u 58),(u 59),(u 60),(u 61),(u 62),(u 63),(u 64),(u 65),(u 66),(u 67),(u 68),(u 69),(u 70),(u 71),(u 72),(u 73),(u 74),(u 75),(u 76),(u 77),(u 78),(u 79),(u 80),(u 81),(u 82),(u 83),(u 84),(u 85),(u 86),(u 87),(u 88),(u 89),(u 90),(u 91),(u 92),(u 93),(u 94),(u 95),(u 96),(u 97),(u 98),(u 99),(u 100),(u 101),(u 102),(u 103),(u 104),(u 105),(u 106),(u 107),(u 108),(u 109),(u 110),(u 111),(u 112),(u 113),(u 114),(u 115),(u 116),(u 117),(u 118),(u 119),(u 120),(u 121),(u 122),(u 123),(u 124),(u 125),(u 126),(u 127),(u 128),(u 129),(u 130),(u 131),(u 132),(u 133),(u 134),(u 135),(u 136),(u 137),(u 138),(u 139),(u 140),(u 141),(u 142),(u 143),(u 144),(u 145),(u 146),(u 147),(u 148),(u 149),(u 150),(u 151),(u 152),(u 153),(u 154),(u 155),(u 156),(u 157),(u 158),(u 159),(u 160),(u 161),(u 162),(u 163),(u 164),(u 165),(u 166)],defers:=[]}
def lfE(s t:ByteArray)(n0 O1 O2:Nat)(i k:Int)(q:Bool)(e:Int)(u:Nat->Value):Act:=
 {tmps:=#[.string s,.string t,(u 2),(u 3),(u 4),.pointer (some ⟨n0,0,none⟩),.slice (some ⟨O1,0,none⟩) (s.size+1) (s.size+1),.slice (some ⟨O2,0,none⟩) (s.size+1) (s.size+1),.int .i64 i,.int .i64 k,.bool q,.int .i64 e,(u 12),(u 13),(u 14),(u 15),(u 16),(u 17),(u 18),(u 19),(u 20),(u 21),(u 22),(u 23),(u 24),(u 25),(u 26),(u 27),(u 28),(u 29),(u 30),(u 31),(u 32),(u 33),(u 34),(u 35),(u 36),(u 37),(u 38),(u 39),(u 40),(u 41),(u 42),(u 43),(u 44),(u 45),(u 46),(u 47),(u 48),(u 49),(u 50),(u 51),(u 52),(u 53),(u 54),(u 55),(u 56),(u 57),(u 58),(u 59),(u 60),(u 61),(u 62),(u 63),(u 64),(u 65),(u 66),(u 67),(u 68),(u 69),(u 70),(u 71),(u 72),(u 73),(u 74),(u 75),(u 76),(u 77),(u 78),(u 79),(u 80),(u 81),(u 82),(u 83),(u 84),(u 85),(u 86),(u 87),(u 88),(u 89),(u 90),(u 91),(u 92),(u 93),(u 94),(u 95),(u 96),(u 97),(u 98),(u 99),(u 100),(u 101),(u 102),(u 103),(u 104),(u 105),(u 106),(u 107),(u 108),(u 109),(u 110),(u 111),(u 112),(u 113),(u 114),(u 115),(u 116),(u 117),(u 118),(u 119),(u 120),(u 121),(u 122),(u 123),(u 124),(u 125),(u 126),(u 127),(u 128),(u 129),(u 130),(u 131),(u 132),(u 133),(u 134),(u 135),(u 136),(u 137),(u 138),(u 139),(u 140),(u 141),(u 142),(u 143),(u 144),(u 145),(u 146),(u 147),(u 148),(u 149),(u 150),(u 151),(u 152),(u 153),(u 154),(u 155),(u 156),(u 157),(u 158),(u 159),(u 160),(u 161),(u 162),(u 163),(u 164),(u 165),(u 166)],defers:=[]}
theorem ak8{s t:ByteArray}{n0 O1 O2:Nat}{a':Act}(h:a'=lfZ s t n0 O1 O2 (fun k=>a'.tmps.getD k undef)):∃u,a'=lfZ s t n0 O1 O2 u:=⟨_,h⟩
theorem a8H{s t:ByteArray}{n0 O1 O2:Nat}{i:Int}{a':Act}(h:a'=lfO s t n0 O1 O2 i (fun k=>a'.tmps.getD k undef)):∃u,a'=lfO s t n0 O1 O2 i u:=⟨_,h⟩
theorem aeD{s t:ByteArray}{n0 O1 O2:Nat}{i k:Int}{a':Act}(h:a'=lfI s t n0 O1 O2 i k (fun k=>a'.tmps.getD k undef)):∃u,a'=lfI s t n0 O1 O2 i k u:=⟨_,h⟩
theorem a5S{s t:ByteArray}{n0 O1 O2:Nat}{i k:Int}{q:Bool}{e:Int}{a':Act}(h:a'=lfE s t n0 O1 O2 i k q e (fun k=>a'.tmps.getD k undef)):∃u,a'=lfE s t n0 O1 O2 i k q e u:=⟨_,h⟩
theorem aoa(s t:ByteArray)(n0 O1 O2:Nat)(i:Int)(u:Nat->Value):(lfO s t n0 O1 O2 i u).tmps.getD 8 undef= .int .i64 i:=rfl
theorem aob(s t:ByteArray)(n0 O1 O2:Nat)(i k:Int)(u:Nat->Value):(lfI s t n0 O1 O2 i k u).tmps.getD 9 undef= .int .i64 k:=rfl
theorem aoc(s t:ByteArray)(n0 O1 O2:Nat)(i k:Int)(q:Bool)(e:Int)(u:Nat->Value):(lfE s t n0 O1 O2 i k q e u).tmps.getD 11 undef= .int .i64 e:=rfl
def aeE(s t:ByteArray)(w:World)(e:Ending)(w':World):Prop:=∃O1 O2 G1,e= .returned (.tuple #[.slice (some ⟨O1,0,none⟩) (s.size+1) (s.size+1),.slice (some ⟨O2,0,none⟩) (s.size+1) (s.size+1)])/\aeB s.size t.size w.heap.size O1 (okC s t) G1 0 0 w'/\Below w.heap.size w w'
def LfO(s t:ByteArray)(w:World)(n0 O1 O2:Nat)(a':Act)(W:World):Prop:=∃(j:Nat) (i:Int) (G1 G2:Nat->Nat),(j<=s.size+1/\i=(j:Int)-1/\LfW s t w n0 O1 O2 G1 G2 j 0 W)/\∃u,a'=lfO s t n0 O1 O2 i u
def LfI(s t:ByteArray)(w:World)(n0 O1 O2:Nat)(G1 G2:Nat->Nat)(j0:Nat)(a':Act)(W:World):Prop:=∃(q:Nat) (k:Int),(q<=t.size+1/\k=(q:Int)-1/\LfW s t w n0 O1 O2 G1 G2 j0 q W)/\∃u,a'=lfI s t n0 O1 O2 (j0:Int) k u
structure EdW(s t:ByteArray)(w:World)(n0 O1 O2:Nat)(G1 G2:Nat->Nat)(j0 k0 m:Nat)(W:World):Prop where
 lf:LfW s t w n0 O1 O2 G1 G2 j0 (k0+1) W
 cur:a12 s.data.toList t.data.toList j0 k0 m≠[]->W.cell? ⟨G1 j0,k0,none⟩=some (.int .i64 ((a1A s.data.toList t.data.toList (a12 s.data.toList t.data.toList j0 k0 m)).getD 0:Nat))/\∃y:Int,W.cell? ⟨G2 j0,k0,none⟩=some (.int .i64 y)
def LfE(s t:ByteArray)(w:World)(n0 O1 O2:Nat)(G1 G2:Nat->Nat)(j0 k0:Nat)(a':Act)(W:World):Prop:=∃(m:Nat) (e:Int) (q:Bool),(m<=4/\e=(m:Int)+1/\q= !(a12 s.data.toList t.data.toList j0 k0 m).isEmpty/\EdW s t w n0 O1 O2 G1 G2 j0 k0 m W)/\∃u,a'=lfE s t n0 O1 O2 (j0:Int) (k0:Int) q e u
section
variable{s t:ByteArray}{w:World}{n0 O1 O2:Nat}{G1 G2:Nat->Nat}{j0 k0 m:Nat}{W W':World}
theorem EdW.keep(h:EdW s t w n0 O1 O2 G1 G2 j0 k0 m W)(hb:Below W.heap.size W W'):EdW s t w n0 O1 O2 G1 G2 j0 k0 m W':=
 ⟨h.lf.keep hb,fun hn=>by
  obtain⟨h1,y,h2⟩:=h.cur hn;exact⟨keep_cell hb h1,y,keep_cell hb h2⟩⟩
theorem EdW.same(h:EdW s t w n0 O1 O2 G1 G2 j0 k0 m W)(hb:Below W.heap.size W W')(ho:a1Y s.data.toList t.data.toList j0 k0 (m+1)=none):EdW s t w n0 O1 O2 G1 G2 j0 k0 (m+1) W':=by
 have hp:a12 s.data.toList t.data.toList j0 k0 (m+1)=a12 s.data.toList t.data.toList j0 k0 m:=by
  show a12 s.data.toList t.data.toList j0 k0 m++(a1Y s.data.toList t.data.toList j0 k0 (m+1)).toList=_
  rw[ho];simp
 have h9:=h.keep hb;exact⟨h9.lf,by rw[hp];exact h9.cur⟩
theorem a8I{x:Stp}{s t:List UInt8}(ho:a1Y s t j0 k0 (m+1)=some x):a12 s t j0 k0 (m+1)=a12 s t j0 k0 m++[x]:=by
 show a12 s t j0 k0 m++(a1Y s t j0 k0 (m+1)).toList=_
 rw[ho];rfl
theorem a9S{W:World}{g j:Nat}{v u:Value}(h:W.cell? ⟨g,j,none⟩=some u):(W.setCell ⟨g,j,none⟩ v).cell? ⟨g,j,none⟩=some v:=World.cell?_setCell_same' _ _ _ (by rw[h];rfl)
theorem EdW.set{xe xi xk xc:Nat}(h:EdW s t w n0 O1 O2 G1 G2 j0 k0 m W)(hj:j0<=s.size)(hk:k0<=t.size)(hz:¬(j0=s.size/\k0=t.size))(ho:a1Y s.data.toList t.data.toList j0 k0 (m+1)=some ⟨xe,xi,xk,xc⟩)
  (hb:a1E (a1A s.data.toList t.data.toList (a12 s.data.toList t.data.toList j0 k0 m)) (cst s.data.toList t.data.toList xi xk+xc)=some (cst s.data.toList t.data.toList xi xk+xc))(y:Int):
  EdW s t w n0 O1 O2 G1 G2 j0 k0 (m+1) ((W.setCell ⟨G1 j0,k0,none⟩ (.int .i64 ((xc:Int)+(cst s.data.toList t.data.toList xi xk:Nat)))).setCell ⟨G2 j0,k0,none⟩ (.int .i64 y)).drew:=by
 obtain⟨d1,q6⟩:=h.lf.t1.holdG (i:=j0) (j:=k0) (aof _) hj om;obtain⟨d2,q7⟩:=h.lf.t2.holdG (i:=j0) (j:=k0) (aof _) hj om;have nG:=h.lf.sep j0 j0 (aof _) hj (aof _) hj;refine⟨(h.lf.poke hj hz _ _).keep (aoi _ _).drew,fun _=>⟨?_,y,?_⟩⟩
 ·rw[a8I ho,a4n,hb];refine(World.cell?_setCell_other _ _ _ _ (by simp[nG])).trans ((a9S q6).trans ?_)
  rw[aoW];congr 2;push_cast;omega
 exact a9S ((World.cell?_setCell_other _ _ _ _ (by simp[Ne.symm nG])).trans q7)
theorem EdW.set2{xe xi xk xc b:Nat}(h:EdW s t w n0 O1 O2 G1 G2 j0 k0 m W)(hj:j0<=s.size)(hk:k0<=t.size)(ho:a1Y s.data.toList t.data.toList j0 k0 (m+1)=some ⟨xe,xi,xk,xc⟩)(hne:a12 s.data.toList t.data.toList j0 k0 m≠[])
  (h9:a1A s.data.toList t.data.toList (a12 s.data.toList t.data.toList j0 k0 m)=some b)(hb:a1E (some b) (cst s.data.toList t.data.toList xi xk+xc)=some b)(y:Int):
  EdW s t w n0 O1 O2 G1 G2 j0 k0 (m+1) (W.setCell ⟨G2 j0,k0,none⟩ (.int .i64 y)).drew:=by
 obtain⟨d2,q7⟩:=h.lf.t2.holdG (i:=j0) (j:=k0) (aof _) hj om;have nG:=h.lf.sep j0 j0 (aof _) hj (aof _) hj;obtain⟨h1,_⟩:=h.cur hne;rw[h9]at h1;refine⟨(h.lf.poke2 hj _).keep (aoi _ _).drew,fun _=>⟨?_,y,a9S q7⟩⟩;rw[a8I ho,a4n,h9,hb];exact(World.cell?_setCell_other _ _ _ _ (by simp[nG])).trans h1
theorem EdW.set3{xe xi xk xc b:Nat}(h:EdW s t w n0 O1 O2 G1 G2 j0 k0 m W)(ho:a1Y s.data.toList t.data.toList j0 k0 (m+1)=some ⟨xe,xi,xk,xc⟩)(hne:a12 s.data.toList t.data.toList j0 k0 m≠[])
  (h9:a1A s.data.toList t.data.toList (a12 s.data.toList t.data.toList j0 k0 m)=some b)(hb:a1E (some b) (cst s.data.toList t.data.toList xi xk+xc)=some b):EdW s t w n0 O1 O2 G1 G2 j0 k0 (m+1) W:=by
 obtain⟨h1,y,h2⟩:=h.cur hne;rw[h9]at h1;refine⟨h.lf,fun _=>⟨?_,y,h2⟩⟩;rw[a8I ho,a4n,h9,hb];exact h1
theorem EdW.done(h:EdW s t w n0 O1 O2 G1 G2 j0 k0 4 W)(hj:j0<=s.size)(hk:k0<=t.size)(hz:¬(j0=s.size/\k0=t.size)):LfW s t w n0 O1 O2 G1 G2 j0 k0 W:=by
 have hne:a12 s.data.toList t.data.toList j0 k0 4≠[]:=by
  rw[a9R];unfold a0t;rw[<-a05,<-a05];intro e;simp only[List.append_eq_nil_iff]at e;obtain⟨_,e2,e3⟩:=e;by_cases h1:j0<s.size
  ·rw[if_pos h1]at e2;cases e2
  have h2:k0<t.size:=om;rw[if_pos h2]at e3;cases e3
 obtain⟨h1,y,h2⟩:=h.cur hne;rw[a9R,afZ (by rw[<-a05];exact hj) (by rw[<-a05];exact hk)]at h1;exact h.lf.fill hj hk h1 h2
def KX(g1 g2 k:Nat)(W W':World):Prop:=∀b o v,¬(b=g1/\o=k)->¬(b=g2/\o=k)->W.cell? ⟨b,o,none⟩=some v->W'.cell? ⟨b,o,none⟩=some v
theorem KX.refl(g1 g2 k:Nat)(W:World):KX g1 g2 k W W:=fun _ _ _ _ _ h=>h
theorem KX.drew{g1 g2 k:Nat}{W W':World}(h:KX g1 g2 k W W'):KX g1 g2 k W W'.drew:=fun b o v h1 h2 h3=>h b o v h1 h2 h3
theorem KX.set1{g1 g2 k:Nat}{W W':World}(h:KX g1 g2 k W W')(x:Value):KX g1 g2 k W (W'.setCell ⟨g1,k,none⟩ x):=fun b o v h1 h2 h3=>(World.cell?_setCell_other _ _ _ _ (by intro e;injection e with e1 e2;exact h1 ⟨e1.symm,e2.symm⟩)).trans (h b o v h1 h2 h3)
theorem KX.set2{g1 g2 k:Nat}{W W':World}(h:KX g1 g2 k W W')(x:Value):KX g1 g2 k W (W'.setCell ⟨g2,k,none⟩ x):=fun b o v h1 h2 h3=>(World.cell?_setCell_other _ _ _ _ (by intro e;injection e with e1 e2;exact h2 ⟨e1.symm,e2.symm⟩)).trans (h b o v h1 h2 h3)
theorem LfW.away{lo kk i:Nat}(h:LfW s t w n0 O1 O2 G1 G2 lo kk W)(hlo:lo<=s.size)(_hi:lo=i:=by rfl):O1≠G1 lo/\O1≠G2 lo/\O2≠G1 lo/\O2≠G2 lo:=by
 obtain⟨R1,hR1,_⟩:=h.t1.rowAt (aof _) hlo;obtain⟨R2,hR2,_⟩:=h.t2.rowAt (aof _) hlo;obtain⟨A1,hA1⟩:=h.t1.rowsAt;obtain⟨A2,hA2⟩:=h.t2.rowsAt;exact⟨a1k hA1 hR1 ox,a1k hA1 hR2 ox,a1k hA2 hR1 ox,a1k hA2 hR2 ox⟩
theorem LfW.away3{lo kk i k:Nat}(h:LfW s t w n0 O1 O2 G1 G2 lo (kk+1) W)(hlo:lo<=s.size)(hi:i<=s.size)(hx:lo<i\/(i=lo/\kk<k)):¬(G2 i=G1 lo/\k=kk)/\¬(G2 i=G2 lo/\k=kk):=by
 refine⟨fun e=>h.sep lo i (aof _) hlo om hi e.1.symm,fun e=>?_⟩;by_cases e2:i=lo
 ·omega
 exact h.t2.inj i lo om hi (aof _) hlo e2 e.1
end
theorem anm (s t:ByteArray) (hs:s.size<=20) (ht:t.size<=20) (w:World):
  CallsIn Fence.wide 4 prog 138 #[.string s,.string t,.agg #[.int .i64 1,.int .i64 1]] w (aeE s t w):=by
 have hmkO:=fun W=>ak7 (s.size+1) om W;rw[show ((s.size+1:Nat):Int)=(s.size:Int)+1 from rfl]at hmkO;have hw1:IntKind.i64.wrap ((s.size:Int)+1)=(s.size:Int)+1:=IntWalk.i64_in _ om;refine callsIn_of_wp func138 rfl trivial ?_ rfl;simp only[ntmps138,ape,aom,aow,Nat.reduceAdd,Nat.reduceSub,ap3,ap4,apf,ap7,aoM,aoA];gi_wp2;obtain⟨n0,hn0⟩:∃n0,n0=w.heap.size:=⟨_,rfl⟩
 obtain⟨W0,hW0⟩:∃W0,W0=w.alloc (.cells #[.int .i64 1,.int .i64 1] 176):=⟨_,rfl⟩
 have hp0:W0.heap[n0]? =some (.cells #[.int .i64 1,.int .i64 1] 176 (0,0)):=by rw[hW0,hn0];exact World.alloc_heap_new w _
 have hb0:Below n0 w W0:=by rw[hW0,hn0];exact(aoi _ _).alloc (aof _) _
 have hz0:n0<=W0.heap.size:=apG (aog.1 hp0).1
 rw[<-hW0,<-hn0];have HP0:=hid hp0;have HB0:=hid hb0;have HZ0:=hid hz0;have HN0:=hid hn0;clear hW0 hp0 hb0 hz0 hn0;refine wpIn_wide.2 ?_;refine Code.wp_mono (Q:=fun e a' W=>e= .normal/\∃O1 O2,(∃u,a'=lfZ s t n0 O1 O2 u)/\LfW s t w n0 O1 O2 (fun _=>0) (fun _=>0) (s.size+1) 0 W) ?next0 ?reg0
 case reg0=>
  have hHeld:True:=trivial;refine wp_region_held_drew (S:=fun _=>True) ot trivial (fun hHeld=>?_);refine tk [0,1,2,4,5,6] ?_;repeat (refine tkC hHeld (h:=?_);apply exq;(· intro W3 hS3;go_simp;try rfl);try simp only[gS])
  with_reducible refine tkE ?_
  refine wpAnyH_ready (rs:=[3,7]) ot oz ?_;refine AllReadyH.cons rfl (fun K hK=>?_) (AllReadyH.cons rfl (fun K hK=>?_) AllReadyH.nil)
  ·go_simp;refine hK.out _ _ trivial (fun hHeld=>?_);clear hK K;try simp only[gS]
   refine tk [8] ?_;repeat (refine tkC hHeld (h:=?_);apply exq;(· intro W3 hS3;go_simp;try rfl);try simp only[gS])
   with_reducible refine tkE ?_
   refine rdy 7 (h:=fun K hK=>?_);go_simp;refine hK.out _ _ trivial (fun hHeld=>?_);clear hK K;try simp only[gS]
   refine tk [9] ?_;repeat (refine tkC hHeld (h:=?_);apply exq;(· intro W3 hS3;go_simp;try rfl);try simp only[gS])
   with_reducible refine tkE ?_
   exact wpAnyH_done ot ⟨rfl,_,_,ak8 rfl,acL HP0.out HB0.out HZ0.out⟩ _
  go_simp;refine hK.out _ _ trivial (fun hHeld=>?_);clear hK K;try simp only[gS]
  refine rdy 3 (h:=fun K hK=>?_);go_simp;refine hK.out _ _ trivial (fun hHeld=>?_);clear hK K;try simp only[gS]
  refine tk [8,9] ?_;repeat (refine tkC hHeld (h:=?_);apply exq;(· intro W3 hS3;go_simp;try rfl);try simp only[gS])
  with_reducible refine tkE ?_
  exact wpAnyH_done ot ⟨rfl,_,_,ak8 rfl,(acL HP0.out HB0.out HZ0.out).swap⟩ _
 case next0=>
  clear hmkO hw1;rintro e a' W1 ⟨rfl,O1,O2,⟨u1,rfl⟩,hL1⟩;unfold lfZ;have HL1:=hid hL1;clear hL1;gi_wp2;refine wpIn_loop (LfO s t w n0 O1 O2) (fun a' W=>(intOf (a'.tmps.getD 8 undef)+1).toNat) ?start ?round;case start=>exact⟨s.size+1,_,_,_,⟨aof _,om,HL1.out⟩,a8H rfl⟩
  case round=>
   rintro _ W ⟨j,i,G1,G2,⟨hj,hi,hL⟩,u,rfl⟩;rw[aoa];unfold lfO;rcases apI j with h0|h0
   ·subst h0;have hneg:¬(0:Int)<=i:=om;have HL:=hid hL;clear hL hi;gi_wp2;refine bodyPost_ret (results_tmp2 rfl _ _ _) rfl ?_;exact⟨O1,O2,G1,rfl,by rw[<-HN0.out];exact HL.out.t1,by rw[<-HN0.out];exact HL.out.bel⟩
   obtain⟨j0,rfl⟩:∃j0,j=j0+1:=⟨j-1,om⟩
   obtain rfl:i=(j0:Int):=om;have hpos:(0:Int)<=(j0:Int):=om;have hji:(j0:Int)<(s.size:Int)+1:=om;have hmkR:=fun W=>alT (t.size+1) om W;rw[show ((t.size+1:Nat):Int)=(t.size:Int)+1 from rfl]at hmkR;have hw1:IntKind.i64.wrap ((t.size:Int)+1)=(t.size:Int)+1:=IntWalk.i64_in _ om;have hal:Below W.heap.size W ((W.alloc (.cells (zI (t.size+1)) 3)).alloc (.cells (zI (t.size+1)) 3)):=((aoi _ _).alloc (aof _) _).alloc oz _
   obtain⟨v1,hv1⟩:=(hL.t1.below hal).holdO (i:=j0) om
   have hf1:=(hL.t1.below hal).frozenO j0
   obtain⟨v2,hv2⟩:=(hL.t2.below hal).holdO (i:=j0) om
   have hf2:=(hL.t2.below hal).frozenO j0
   have hal1:Below W.heap.size W (W.alloc (.cells (zI (t.size+1)) 3)):=(aoi _ _).alloc (aof _) _
   obtain⟨v3,hv3⟩:=(hL.t1.below hal1).holdO (i:=j0) om
   have hf3:=(hL.t1.below hal1).frozenO j0
   have hk4:∀A,W.heap[O2]? =some (Obj.cells A 122 (0,0))->(((W.alloc (.cells (zI (t.size+1)) 3)).setCell ⟨O1,j0,none⟩ (.slice (some ⟨W.heap.size,0,none⟩) (t.size+1) (t.size+1))).alloc (.cells (zI (t.size+1)) 3)).heap[O2]? =some (Obj.cells A 122 (0,0)):=fun A hA=>(aop _ _ _ (by have:=hL.t2.lt;simp;omega)).trans ((a01 (Ne.symm hL.ne)).trans ((aop _ _ _ hL.t2.lt).trans hA))
   obtain⟨A9,hA9,hA9s,_⟩:=hL.t2.rows;obtain⟨v4,hv4⟩:∃v,(((W.alloc (.cells (zI (t.size+1)) 3)).setCell ⟨O1,j0,none⟩ (.slice (some ⟨W.heap.size,0,none⟩) (t.size+1) (t.size+1))).alloc (.cells (zI (t.size+1)) 3)).cell? ⟨O2,j0,none⟩=some v:=⟨_,heap_cell (j:=j0) (hk4 A9 hA9) (aoD om)⟩
   have hf4:(((W.alloc (.cells (zI (t.size+1)) 3)).setCell ⟨O1,j0,none⟩ (.slice (some ⟨W.heap.size,0,none⟩) (t.size+1) (t.size+1))).alloc (.cells (zI (t.size+1)) 3)).frozen? ⟨O2,j0,none⟩=false:=by simp only[World.frozen?,hk4 A9 hA9];rfl
   clear hk4 hA9 hA9s;have hOO:¬O2=O1:=Ne.symm hL.ne;have hOO2:¬O1=O2:=hL.ne;have HL:=hid hL;have HJ:Hid (j0<=s.size):=hid om;clear hL hi h0 hj hal hal1;gi_wp2;refine wpIn_wide.2 ?_;refine Code.wp_mono (Q:=fun e a' W'=>e= .normal/\(∃u,a'=lfO s t n0 O1 O2 (j0:Int) u)/\∃g1 g2,LfW s t w n0 O1 O2 (a2H G1 j0 g1) (a2H G2 j0 g2) j0 (t.size+1) W') ?next1 ?reg1
   case reg1=>
    have hHeld:True:=trivial;refine wp_region_held_drew (S:=fun _=>True) ot trivial (fun hHeld=>?_);refine tk [0,1,2,3,4,5,6,8,9,10] ?_;repeat (refine tkC hHeld (h:=?_);apply exq;(· intro W3 hS3;go_simp;try rfl);try simp only[gS])
    with_reducible refine tkE ?_
    refine wpAnyH_ready (rs:=[7,11]) ot oz ?_;refine AllReadyH.cons rfl (fun K hK=>?_) (AllReadyH.cons rfl (fun K hK=>?_) AllReadyH.nil)
    ·go_simp;refine hK.out _ _ trivial (fun hHeld=>?_);clear hK K;try simp only[gS]
     refine tk [12] ?_;repeat (refine tkC hHeld (h:=?_);apply exq;(· intro W3 hS3;go_simp;try rfl);try simp only[gS])
     with_reducible refine tkE ?_
     refine wpAnyH_ready (rs:=[11,13]) ot oz ?_;refine AllReadyH.cons rfl (fun K hK=>?_) (AllReadyH.cons rfl (fun K hK=>?_) AllReadyH.nil)
     ·go_simp;refine hK.out _ _ trivial (fun hHeld=>?_);clear hK K;try simp only[gS]
      refine rdy 13 (h:=fun K hK=>?_);go_simp;refine hK.out _ _ trivial (fun hHeld=>?_);clear hK K;try simp only[gS]
      refine tk [14] ?_;repeat (refine tkC hHeld (h:=?_);apply exq;(· intro W3 hS3;go_simp;try rfl);try simp only[gS])
      with_reducible refine tkE ?_
      refine rdy 15 (h:=fun K hK=>?_);go_simp;refine hK.out _ _ trivial (fun hHeld=>?_);clear hK K;try simp only[gS]
      exact wpAnyH_done ot ⟨rfl,a8H rfl,_,_,anW HL.out HJ.out⟩ _
     go_simp;refine hK.out _ _ trivial (fun hHeld=>?_);clear hK K;try simp only[gS]
     refine rdy 11 (h:=fun K hK=>?_);go_simp;refine hK.out _ _ trivial (fun hHeld=>?_);clear hK K;try simp only[gS]
     refine tk [14] ?_;repeat (refine tkC hHeld (h:=?_);apply exq;(· intro W3 hS3;go_simp;try rfl);try simp only[gS])
     with_reducible refine tkE ?_
     refine rdy 15 (h:=fun K hK=>?_);go_simp;refine hK.out _ _ trivial (fun hHeld=>?_);clear hK K;try simp only[gS]
     exact wpAnyH_done ot ⟨rfl,a8H rfl,_,_,anY HL.out HJ.out⟩ _
    go_simp;refine hK.out _ _ trivial (fun hHeld=>?_);clear hK K;try simp only[gS]
    refine rdy 7 (h:=fun K hK=>?_);go_simp;refine hK.out _ _ trivial (fun hHeld=>?_);clear hK K;try simp only[gS]
    refine tk [12] ?_;repeat (refine tkC hHeld (h:=?_);apply exq;(· intro W3 hS3;go_simp;try rfl);try simp only[gS])
    with_reducible refine tkE ?_
    refine rdy 13 (h:=fun K hK=>?_);go_simp;refine hK.out _ _ trivial (fun hHeld=>?_);clear hK K;try simp only[gS]
    refine tk [14] ?_;repeat (refine tkC hHeld (h:=?_);apply exq;(· intro W3 hS3;go_simp;try rfl);try simp only[gS])
    with_reducible refine tkE ?_
    refine rdy 15 (h:=fun K hK=>?_);go_simp;refine hK.out _ _ trivial (fun hHeld=>?_);clear hK K;try simp only[gS]
    exact wpAnyH_done ot ⟨rfl,a8H rfl,_,_,anX HL.out HJ.out⟩ _
   case next1=>
    clear hmkR hf1 hv1 hf2 hv2 hf3 hv3 hf4 hv4 hOO hOO2;rintro e a' W2 ⟨rfl,⟨u1,rfl⟩,g1,g2,hL2⟩;unfold lfO;generalize a2H G1 j0 g1=G1 at *;generalize a2H G2 j0 g2=G2 at *;have HL2:=hid hL2;clear hL2;gi_wp2;refine wpIn_loop (LfI s t w n0 O1 O2 G1 G2 j0) (fun a' W=>(intOf (a'.tmps.getD 9 undef)+1).toNat) ?start ?round;case start=>exact⟨t.size+1,_,⟨aof _,om,HL2.out⟩,aeD rfl⟩
    case round=>
     rintro _ W3 ⟨q,k,⟨hq,hk,hL3⟩,u3,rfl⟩;rw[aob];unfold lfI;rcases apI q with h0|h0
     ·subst h0;have hneg:¬(0:Int)<=k:=om;have HL3:=hid hL3;clear hL3 hk hq;have hw2:IntKind.i64.wrap ((j0:Int)-1)=(j0:Int)-1:=IntWalk.i64_in _ om;gi_wp2;refine⟨⟨j0,_,G1,G2,⟨by have:=HJ.out;omega,rfl,HL3.out⟩,a8H rfl⟩,?_⟩;simp only[intOf];omega
     obtain⟨k0,rfl⟩:∃k0,q=k0+1:=⟨q-1,om⟩
     obtain rfl:k=(k0:Int):=om;have hpos2:(0:Int)<=(k0:Int):=om;have hki:(k0:Int)<(t.size:Int)+1:=om;have hw3:IntKind.i64.wrap ((k0:Int)-1)=(k0:Int)-1:=IntWalk.i64_in _ om;have HQ:Hid (k0<=t.size):=hid om;have HL3:=hid hL3;clear hL3 hk h0 hq;have q2:=HL3.out.t2.look (i:=j0) (aof _) HJ.out;obtain⟨v2,c2⟩:=HL3.out.t2.holdG (i:=j0) (j:=k0) (aof _) HJ.out (by have:=HQ.out;omega);have fz2:=HL3.out.t2.frozenG (i:=j0) (aof _) HJ.out
     have HBOTH:Hid (j0=s.size->k0=t.size->LfW s t w n0 O1 O2 G1 G2 j0 k0 (W3.setCell ⟨G2 j0,k0,none⟩ (.int .i64 1))):=hid (fun e1 e2=>by
      have h9:=HL3.out.poke2 HJ.out (.int .i64 1);obtain⟨A2,hA2,hA2s⟩:=HL3.out.t2.rowAt (aof _) HJ.out;refine h9.fill (y:=1) HJ.out HQ.out ?_ ?_
      ·rw[e1,e2,a05 s,a05 t,afY,<-a05,<-a05];have h8:=h9.zero e1 om;rw[e1,e2]at h8;exact h8
      rw[aeC (a0p hA2),app (by have:=HQ.out;omega)])
     rcases (show (j0=s.size/\k0=t.size)\/(j0=s.size/\¬k0=t.size)\/¬j0=s.size by omega)with⟨hbi,hbk⟩|⟨hbi,hbk⟩|hbi
     ·have t1:((j0:Int)==(s.size:Int))=true:=by rw[beq_iff_eq];omega
      have t2:((k0:Int)==(t.size:Int))=true:=by rw[beq_iff_eq];omega
      have HB2:=hid (HBOTH.out hbi hbk);clear hbi hbk;gi_wp2;refine⟨⟨k0,_,⟨by have:=HQ.out;omega,rfl,HB2.out⟩,aeD rfl⟩,?_⟩;show (((k0:Int)-1)+1).toNat<((k0:Int)+1).toNat
      omega
     have t1:((j0:Int)==(s.size:Int))=true:=by rw[beq_iff_eq];omega
     have t2:((k0:Int)==(t.size:Int))=false:=by rw[beq_eq_false_iff_ne];omega
     have HNB:Hid (¬(j0=s.size/\k0=t.size)):=hid om;clear hbi hbk HBOTH q2 c2 fz2;rotate_left
     have t1:((j0:Int)==(s.size:Int))=false:=by rw[beq_eq_false_iff_ne];omega
     have HNB:Hid (¬(j0=s.size/\k0=t.size)):=hid om;clear hbi HBOTH q2 c2 fz2
     all_goals
      gi_wp2;refine wpIn_loop (LfE s t w n0 O1 O2 G1 G2 j0 k0) (fun a' W=>5-(intOf (a'.tmps.getD 11 undef)).toNat) ?start ?round;case start=>exact⟨0,1,false,⟨om,rfl,rfl,⟨HL3.out,fun h=>absurd rfl h⟩⟩,a5S rfl⟩
      case round=>
       rintro _ W4 ⟨m,e,q,⟨hm,he,hq,hE⟩,u4,rfl⟩;rw[aoc];unfold lfE;have HQB:=hid hq;have HE:=hid hE;clear hq hE;rcases Nat.lt_or_eq_of_le hm with hm4|rfl
       ·obtain rfl:e=(m:Int)+1:=he;have hle:(m:Int)+1<=4:=om;have hw4:IntKind.i64.wrap ((m:Int)+1+1)=(m:Int)+1+1:=IntWalk.i64_in _ om;have hpp:=HE.out.lf.p;have p0:=heap_cell (j:=0) hpp rfl;have p1:=heap_cell (j:=1) hpp rfl;have HST:=hid (alS s t j0 k0 m hm4 hs ht W4);have HPR:Hid (a12 s.data.toList t.data.toList j0 k0 (m+1)=a12 s.data.toList t.data.toList j0 k0 m++(a1Y s.data.toList t.data.toList j0 k0 (m+1)).toList):=hid rfl;have HMM:=hid (fun x (h:a1Y s.data.toList t.data.toList j0 k0 (m+1)=some x)=>ak6 hm4 h);generalize hoo:a1Y s.data.toList t.data.toList j0 k0 (m+1)=o at HST HPR HMM;have HOO:=hid hoo;clear hpp hm hoo;cases o with
        |none=>
         gi_wp2;refine⟨trivial,callsIn_wide.2 (HST.out.mono ?_)⟩;rintro e w5 ⟨⟨c,a,b,rfl⟩,hb5⟩;have HE5:=hid (HE.out.same hb5 HOO.out);clear hb5 p0 p1;gi_wp2;refine⟨⟨m+1,_,q,⟨om,om,by rw[HQB.out,HPR.out];simp,HE5.out⟩,a5S rfl⟩,?_⟩;show 5-((m:Int)+1+1).toNat<5-((m:Int)+1).toNat
         omega
        | some x=>
         obtain⟨xe,xi,xk,xc⟩:=x;gi_wp2;refine⟨trivial,callsIn_wide.2 (HST.out.mono ?_)⟩;rintro e w5 ⟨⟨a,b,rfl,ha,hb⟩,hb5⟩;have HE5:=hid (HE.out.keep hb5);simp only at ha hb;obtain⟨h1,h2,h3,h4⟩:=aaK (by rw[<-a05];exact HJ.out) (by rw[<-a05];exact HQ.out) (HMM.out _ rfl);rw[<-a05]at h1 h2;simp only at h1 h2 h3 h4;have hcst:=ajo s.data.toList t.data.toList xi xk;rw[<-a05,<-a05]at hcst;have q0:=HE5.out.lf.t1.look (i:=j0) (aof _) HJ.out;have q1:=HE5.out.lf.t2.look (i:=j0) (aof _) HJ.out;have q2:=HE5.out.lf.t1.look (i:=xi) om h1;have q3:=HE5.out.lf.t2.look (i:=xi) om h1;obtain⟨v1,q4,hv1⟩:=HE5.out.lf.t1.entry (i:=xi) (k:=xk) (e:=0) om h1 h2 om om;obtain⟨v2,q5,⟨y2,hv2⟩⟩:=HE5.out.lf.t2.entry (i:=xi) (k:=xk) (e:=0) om h1 h2 om om;unfold okC at hv1;subst hv1;subst hv2;simp only[Nat.mul_one,apM]at q4 q5;obtain⟨d1,q6⟩:=HE5.out.lf.t1.holdG (i:=j0) (j:=k0) (aof _) HJ.out (by have:=HQ.out;omega);obtain⟨d2,q7⟩:=HE5.out.lf.t2.holdG (i:=j0) (j:=k0) (aof _) HJ.out (by have:=HQ.out;omega);have fz1:=HE5.out.lf.t1.frozenG (i:=j0) (aof _) HJ.out;have fz2:=HE5.out.lf.t2.frozenG (i:=j0) (aof _) HJ.out;have HX1:=hid (fun y (hbst:a1E (a1A s.data.toList t.data.toList (a12 s.data.toList t.data.toList j0 k0 m)) (cst s.data.toList t.data.toList xi xk+xc)=some (cst s.data.toList t.data.toList xi xk+xc))=>HE5.out.set HJ.out HQ.out HNB.out HOO.out hbst y);have HX2:=hid (fun b y (hne:a12 s.data.toList t.data.toList j0 k0 m≠[]) (h9:a1A s.data.toList t.data.toList (a12 s.data.toList t.data.toList j0 k0 m)=some b) (hbst:a1E (some b) (cst s.data.toList t.data.toList xi xk+xc)=some b)=>HE5.out.set2 HJ.out HQ.out HOO.out hne h9 hbst y)
         have HX3:=hid (fun b (hne:a12 s.data.toList t.data.toList j0 k0 m≠[]) (h9:a1A s.data.toList t.data.toList (a12 s.data.toList t.data.toList j0 k0 m)=some b) (hbst:a1E (some b) (cst s.data.toList t.data.toList xi xk+xc)=some b)=>HE5.out.set3 HOO.out hne h9 hbst);have nG:G1 j0≠G2 j0:=HE5.out.lf.sep j0 j0 (aof _) HJ.out (aof _) HJ.out;have HKX:Hid (KX (G1 j0) (G2 j0) k0 w5 w5.drew):=hid (KX.drew (KX.refl _ _ _ _));have HR1:=hid (HE5.out.lf.away (i:=j0) HJ.out);have HR2:=hid (HE5.out.lf.away3 HJ.out h1 h3);have hwa:IntKind.i64.wrap ((j0:Int)+(a:Int))=(xi:Int):=by rw[IntWalk.i64_in _ om];omega
         have hwb:IntKind.i64.wrap ((k0:Int)+(b:Int))=(xk:Int):=by rw[IntWalk.i64_in _ om];omega
         have z1:(0:Int)<=(xi:Int):=om;have z2:(xi:Int)<(s.size:Int)+1:=om;have z3:(0:Int)<=(xk:Int):=om;have z4:(xk:Int)<(t.size:Int)+1:=om;have HEC:=hid (fun h=>HE5.out.cur h);have HPN:Hid ((a12 s.data.toList t.data.toList j0 k0 (m+1)).isEmpty=false):=hid (by rw[HPR.out];simp);generalize cst s.data.toList t.data.toList xi xk=c1 at *;have hwc:IntKind.i64.wrap ((xc:Int)+(c1:Int))=(xc:Int)+(c1:Int):=IntWalk.i64_in _ om;clear hb5 p0 p1 ha hb h3 hcst;cases hqv:q
         have hem:a12 s.data.toList t.data.toList j0 k0 m=[]:=by
          have h9:=HQB.out;rw[hqv]at h9;have h8:(a12 s.data.toList t.data.toList j0 k0 m).isEmpty=true:=by simpa using h9.symm
          exact List.isEmpty_iff.1 h8
         have HY:=hid (fun y=>HX1.out y (by rw[hem];rfl));clear hqv hem HEC HX1 HX2 HX3;rotate_left
         have hem:a12 s.data.toList t.data.toList j0 k0 m≠[]:=fun h9=>by
          have h8:=HQB.out;rw[hqv,h9]at h8;cases h8
         obtain⟨hcur,y,hcy⟩:=HEC.out hem;obtain⟨bN,hbN⟩:=adZ (s:=s.data.toList) (t:=t.data.toList) hem;rw[hbN]at hcur;simp only[aoW]at hcur;have HNE:=hid hem;have HBN:=hid hbN;clear hqv hem HEC q6 q7 hbN;rcases Nat.lt_trichotomy (xc+c1) bN with hlt|heq|hgt;have t9:(xc:Int)+(c1:Int)<(bN:Int):=om;have HY:=hid (fun y=>HX1.out y (by rw[HBN.out];simp only[a1E];rw[if_pos om]));clear hlt HX1 HX2 HX3;rotate_right
         iterate 2
          gi_wp2;have r0:∀W',KX (G1 j0) (G2 j0) k0 w5 W'->W'.cell? ⟨O1,j0,none⟩=some (.slice (some ⟨G1 j0,0,none⟩) (t.size+1) (t.size+1)):=fun W' h=>h _ _ _ (fun e=>HR1.out.1 e.1) (fun e=>HR1.out.2.1 e.1) q0;have r1:∀W',KX (G1 j0) (G2 j0) k0 w5 W'->W'.cell? ⟨O2,j0,none⟩=some (.slice (some ⟨G2 j0,0,none⟩) (t.size+1) (t.size+1)):=fun W' h=>h _ _ _ (fun e=>HR1.out.2.2.1 e.1) (fun e=>HR1.out.2.2.2 e.1) q1;have r2:∀W',KX (G1 j0) (G2 j0) k0 w5 W'->W'.cell? ⟨O2,xi,none⟩=some (.slice (some ⟨G2 xi,0,none⟩) (t.size+1) (t.size+1)):=fun W' h=>h _ _ _ (fun e=>HR1.out.2.2.1 e.1) (fun e=>HR1.out.2.2.2 e.1) q3;have r3:∀W',KX (G1 j0) (G2 j0) k0 w5 W'->W'.cell? ⟨G2 xi,xk,none⟩=some (.int .i64 y2):=fun W' h=>h _ _ _ HR2.out.1 HR2.out.2 q5;obtain⟨d1,q6⟩:=HE5.out.lf.t1.holdG (i:=j0) (j:=k0) (aof _) HJ.out (by have:=HQ.out;omega);obtain⟨d2,q7⟩:=HE5.out.lf.t2.holdG (i:=j0) (j:=k0) (aof _) HJ.out (by have:=HQ.out;omega);have ng1:¬G1 j0=G2 j0:=nG;have ng2:¬G2 j0=G1 j0:=Ne.symm nG;generalize G1 j0=g1 at *;generalize G2 j0=g2 at *;generalize G2 xi=g3 at *;have hHeld:=HKX.out;refine wpIn_wide.2 ?_;refine Code.wp_mono (Q:=fun e a' W=>e= .normal/\(∃u,a'=lfE s t n0 O1 O2 (j0:Int) (k0:Int) true ((m:Int)+1) u)/\EdW s t w n0 O1 O2 G1 G2 j0 k0 (m+1) W) ?next2 ?reg2
          case reg2=>
           refine wp_region_held_drew (S:=KX g1 g2 k0 w5) ot hHeld (fun hHeld=>?_);refine tk [0,1,2,3,4,5,6,7,8,9,10,11,12,13,14,15,16,17,18,19,20,21,22] ?_;repeat (refine tkC hHeld (h:=?_);apply exq;(· intro W3 hS3;go_simp;try rfl);try simp only[gS])
           with_reducible refine tkE ?_
           refine rdy 23 (h:=fun K hK=>?_);go_simp;refine hK.out _ _ ?keep (fun hHeld=>?_);clear hK K;try simp only[gS]
           case keep=>exact(KX.refl _ _ _ _).drew.set1 _
           refine tk [24] ?_;repeat (refine tkC hHeld (h:=?_);apply exq;(· intro W3 hS3;go_simp;try rfl);try simp only[gS])
           with_reducible refine tkE ?_
           refine rdy 25 (h:=fun K hK=>?_);go_simp;refine hK.out _ _ ?keep (fun hHeld=>?_);clear hK K;try simp only[gS]
           case keep=>exact((KX.refl _ _ _ _).set1 _).set2 _
           refine tk [26] ?_;repeat (refine tkC hHeld (h:=?_);apply exq;(· intro W3 hS3;go_simp;try rfl);try simp only[gS])
           with_reducible refine tkE ?_
           exact wpAnyH_done ot ⟨rfl,a5S rfl,HY.out _⟩ _
          case next2=>
           rintro e a' W6 ⟨rfl,⟨u6,rfl⟩,hE6⟩;unfold lfE;have HE6:=hid hE6;clear hE6;gi_wp2;refine⟨⟨m+1,_,true,⟨om,om,by rw[HPN.out];rfl,HE6.out⟩,a5S rfl⟩,?_⟩;show 5-((m:Int)+1+1).toNat<5-((m:Int)+1).toNat
           omega
         ·have t9:¬(xc:Int)+(c1:Int)<(bN:Int):=om;have t8:((xc:Int)+(c1:Int)==(bN:Int))=true:=by rw[beq_iff_eq];omega
          have HY:=hid (fun y=>HX2.out bN y HNE.out HBN.out (by simp only[a1E];rw[if_neg om]));clear heq HX1 HX2 HX3;have r1:∀W',KX (G1 j0) (G2 j0) k0 w5 W'->W'.cell? ⟨O2,j0,none⟩=some (.slice (some ⟨G2 j0,0,none⟩) (t.size+1) (t.size+1)):=fun W' h=>h _ _ _ (fun e=>HR1.out.2.2.1 e.1) (fun e=>HR1.out.2.2.2 e.1) q1;have r2:∀W',KX (G1 j0) (G2 j0) k0 w5 W'->W'.cell? ⟨O2,xi,none⟩=some (.slice (some ⟨G2 xi,0,none⟩) (t.size+1) (t.size+1)):=fun W' h=>h _ _ _ (fun e=>HR1.out.2.2.1 e.1) (fun e=>HR1.out.2.2.2 e.1) q3;have r3:∀W',KX (G1 j0) (G2 j0) k0 w5 W'->W'.cell? ⟨G2 xi,xk,none⟩=some (.int .i64 y2):=fun W' h=>h _ _ _ HR2.out.1 HR2.out.2 q5;clear nG;generalize G1 j0=g1 at *;generalize G2 j0=g2 at *;generalize G2 xi=g3 at *;gi_wp2;have hHeld:=HKX.out;refine wpIn_wide.2 ?_;refine Code.wp_mono (Q:=fun e a' W=>e= .normal/\(∃u,a'=lfE s t n0 O1 O2 (j0:Int) (k0:Int) true ((m:Int)+1) u)/\EdW s t w n0 O1 O2 G1 G2 j0 k0 (m+1) W) ?next3 ?reg3
          case reg3=>
           refine wp_region_held_drew (S:=KX g1 g2 k0 w5) ot hHeld (fun hHeld=>?_);refine tk [0,1,2,3,4,5,7,8,9,10,11,12,13,14,15,16,17] ?_;repeat (refine tkC hHeld (h:=?_);apply exq;(· intro W3 hS3;go_simp;try rfl);try simp only[gS])
           with_reducible refine tkE ?_
           refine rdy 6 (h:=fun K hK=>?_);go_simp;refine hK.out _ _ ?keep (fun hHeld=>?_);clear hK K;try simp only[gS]
           case keep=>exact(KX.refl _ _ _ _).drew
           refine tk [18,19] ?_;repeat (refine tkC hHeld (h:=?_);apply exq;(· intro W3 hS3;go_simp;try rfl);try simp only[gS])
           with_reducible refine tkE ?_
           refine rdy 20 (h:=fun K hK=>?_);go_simp;refine hK.out _ _ ?keep (fun hHeld=>?_);clear hK K;try simp only[gS]
           case keep=>exact(KX.refl _ _ _ _).drew.set2 _
           exact wpAnyH_done ot ⟨rfl,a5S rfl,HY.out _⟩ _
          case next3=>
           rintro e a' W6 ⟨rfl,⟨u6,rfl⟩,hE6⟩;unfold lfE;have HE6:=hid hE6;clear hE6;gi_wp2;refine⟨⟨m+1,_,true,⟨om,om,by rw[HPN.out];rfl,HE6.out⟩,a5S rfl⟩,?_⟩;show 5-((m:Int)+1+1).toNat<5-((m:Int)+1).toNat
           omega
         have t9:¬(xc:Int)+(c1:Int)<(bN:Int):=om;have t8:((xc:Int)+(c1:Int)==(bN:Int))=false:=by rw[beq_eq_false_iff_ne];omega
         have HY:=hid (HX3.out bN HNE.out HBN.out (by simp only[a1E];rw[if_neg om]));clear hgt HX1 HX2 HX3;gi_wp2;refine⟨⟨m+1,_,true,⟨om,om,by rw[HPN.out];rfl,HY.out⟩,a5S rfl⟩,?_⟩;show 5-((m:Int)+1+1).toNat<5-((m:Int)+1).toNat
         omega
       have hgt:¬e<=4:=om;have HF:Hid (LfW s t w n0 O1 O2 G1 G2 j0 k0 W4):=hid (HE.out.done HJ.out HQ.out HNB.out);clear he hm;gi_wp2;refine⟨⟨k0,_,⟨by have:=HQ.out;omega,rfl,HF.out⟩,aeD rfl⟩,?_⟩;first|(show (((k0:Int)-1)+1).toNat<((k0:Int)+1).toNat;omega)|(simp only[intOf];omega)
theorem alU(s t:ByteArray)(hs:s.size<=20)(ht:t.size<=20)(w:World):
  Calls prog 138 #[.string s,.string t,.agg #[.int .i64 1,.int .i64 1]] w (aeE s t w):=(callsIn_wide (n:=4)).1 (anm s t hs ht w)
end Go.Proofs.YtdfkaijeppdhaaaGreatDoor
namespace Go.Proofs.YtdfkaijeppdhaaaGreatDoor
open Lib (hid)
open Proofs.Tryz Go.RowKit Go.Shelf
structure Kept(K:Nat->Prop)(S:Nat)(w0 w:World)(ub vb tb:Option Nat):Prop where
 same:∀k,K k->w.heap[k]? =w0.heap[k]?
 out:∀k,K k->k<w.heap.size/\k≠S/\ub≠some k/\vb≠some k/\tb≠some k
section
variable{K:Nat->Prop}{S:Nat}{w0 w w2:World}{ub vb tb:Option Nat}{ob:Obj}{g j:Nat}{x:Value}
theorem Kept.same2(h:Kept K S w0 w ub vb tb){o:Option Nat}(ho:∀k,K k->o≠some k)(hg:(w.alloc ob).grownBy w2 o)(k:Nat)(hk:K k):(w2.setCell ⟨S,j,none⟩ x).heap[k]? =w0.heap[k]? /\k<(w2.setCell ⟨S,j,none⟩ x).heap.size:=by
 obtain⟨h1,h2,_⟩:=h.out k hk;have hsz:(w.alloc ob).heap.size=w.heap.size+1:=by simp
 refine⟨?_,?_⟩
 ·rw[aok _ _ _ k h2];refine((hg.block k om (fun e=>ho k hk e.symm)).trans ?_).trans (h.same k hk)
  exact aop _ _ _ om
 rw[aos];have:=hg.size;omega
theorem Kept.turnU(h:Kept K S w0 w ub vb tb)(hg:(w.alloc ob).grownBy w2 ub)(hat:ub=some g\/g=w.heap.size+1):Kept K S w0 (w2.setCell ⟨S,j,none⟩ x) (some g) vb tb:=by
 have h9:=fun k hk=>h.same2 (j:=j) (x:=x) (fun k hk=>(h.out k hk).2.2.1) hg k hk;refine⟨fun k hk=>(h9 k hk).1,fun k hk=>⟨(h9 k hk).2,(h.out k hk).2.1,fun e=>?_,(h.out k hk).2.2.2.1,(h.out k hk).2.2.2.2⟩⟩;injection e with e
 subst e;rcases hat with h5|h5
 ·exact(h.out _ hk).2.2.1 h5
 have:=(h.out _ hk).1;omega
theorem Kept.turnV(h:Kept K S w0 w ub vb tb)(hg:(w.alloc ob).grownBy w2 vb)(hat:vb=some g\/g=w.heap.size+1):Kept K S w0 (w2.setCell ⟨S,j,none⟩ x) ub (some g) tb:=by
 have h9:=fun k hk=>h.same2 (j:=j) (x:=x) (fun k hk=>(h.out k hk).2.2.2.1) hg k hk;refine⟨fun k hk=>(h9 k hk).1,fun k hk=>⟨(h9 k hk).2,(h.out k hk).2.1,(h.out k hk).2.2.1,fun e=>?_,(h.out k hk).2.2.2.2⟩⟩;injection e with e
 subst e;rcases hat with h5|h5
 ·exact(h.out _ hk).2.2.2.1 h5
 have:=(h.out _ hk).1;omega
theorem Kept.turnT(h:Kept K S w0 w ub vb tb)(hg:(w.alloc ob).grownBy w2 tb)(hat:tb=some g\/g=w.heap.size+1):Kept K S w0 (w2.setCell ⟨S,j,none⟩ x) ub vb (some g):=by
 have h9:=fun k hk=>h.same2 (j:=j) (x:=x) (fun k hk=>(h.out k hk).2.2.2.2) hg k hk;refine⟨fun k hk=>(h9 k hk).1,fun k hk=>⟨(h9 k hk).2,(h.out k hk).2.1,(h.out k hk).2.2.1,(h.out k hk).2.2.2.1,fun e=>?_⟩⟩;injection e with e
 subst e;rcases hat with h5|h5
 ·exact(h.out _ hk).2.2.2.2 h5
 have:=(h.out _ hk).1;omega
end
def SaysK(K:Nat->Prop)(w0 w:World)(S B:Nat)(l:List Rw):Prop:=∃u v t,Says3 w S B u v t (l.map fun x=>x.1) (l.map fun x=>x.2.1) (l.map fun x=>x.2.2)/\Kept K S w0 w u.ownBlock v.ownBlock t.ownBlock
theorem SaysK.at{K:Nat->Prop}{w0 w:World}{S B:Nat}{l:List Rw}(h:SaysK K w0 w S B l):SaysAt w S B l:=by
 obtain⟨u,v,t,h3,_⟩:=h;exact⟨u,v,t,h3⟩
theorem SaysK.same{K:Nat->Prop}{w0 w:World}{S B:Nat}{l:List Rw}(h:SaysK K w0 w S B l)(k:Nat)(hk:K k):w.heap[k]? =w0.heap[k]? :=by
 obtain⟨u,v,t,_,h3⟩:=h;exact h3.same k hk
theorem SaysAt.keep{w:World}{S B:Nat}{l:List Rw}(h:SaysAt w S B l){K:Nat->Prop}(hK:∀k,K k->k<w.heap.size/\k<B/\k≠S):SaysK K w w S B l:=by
 obtain⟨u,v,t,h3⟩:=h;refine⟨u,v,t,h3,fun _ _=>rfl,fun k hk=>⟨(hK k hk).1,(hK k hk).2.2,fun e=>?_,fun e=>?_,fun e=>?_⟩⟩
 ·have:=(a0s h3.names e).1;have:=(hK k hk).2.1;omega
 ·have:=(a0s h3.texts e).1;have:=(hK k hk).2.1;omega
 have:=(a0s h3.sums e).1;have:=(hK k hk).2.1;omega
def ann(K:Nat->Prop)(w0:World)(S B:Nat)(l:List Rw)(n:ByteArray)(w:World)(e:Ending)(w':World):Prop:=e= .returned (.int .i64 (a0g n l:Nat))/\SaysK K w0 w' S B (a0G l n)/\TS S B w w'
theorem alV(K:Nat->Prop)(w0:World)(S B:Nat)(l:List Rw)(n:ByteArray)(w:World)(h:SaysK K w0 w S B l)(hl:l.length<=1000):Calls prog 74 #[.pointer (some ⟨S,0,none⟩),.string n] w (ann K w0 S B l n w):=by
 obtain⟨u,v,t,h3,hk0⟩:=h;have HK0:=hid hk0;clear hk0;obtain⟨i0,hi0,hz0,hz1,hz2⟩:=info_parts Tryz.infoStr;obtain⟨i1,hi1,hy0,hy1,hy2⟩:=info_parts Tryz.infoInt;have H3:=hid h3;obtain⟨c0,c1,c2,fz⟩:=h3.cell;obtain⟨ua,uc,rfl⟩:=own_shape h3.names;obtain⟨va,vc,rfl⟩:=own_shape h3.texts;obtain⟨ta,tc,rfl⟩:=own_shape h3.sums;have HNL:Hid ((l.map fun x=>x.1).length=l.length):=hid oz;have HTL:Hid ((l.map fun x=>x.2.1).length=l.length):=hid oz;have HSL:Hid ((l.map fun x=>x.2.2).length=l.length):=hid oz;rw[HNL.out]at c0;rw[HTL.out]at c1;rw[HSL.out]at c2;have H3':=hid h3;obtain⟨len,hlen⟩:∃len,len=l.length:=⟨_,rfl⟩
 have HLEN:=hid hlen
 have HCELL:Hid (∀k (hk:k<l.length),w.cell? ⟨(Value.slice ua (l.map fun x=>x.1).length uc).ownBlock.getD 0,k,none⟩=some (.string (l[k]).1)/\∃g,ua=some ⟨g,0,none⟩):=hid (fun k hk=>by
  obtain⟨g,cap,hv,_,_⟩:=h3.names.form (by rw[HNL.out];omega);simp only[Value.slice.injEq]at hv;obtain⟨rfl,_,rfl⟩:=hv;refine⟨?_,g,rfl⟩;have:=h3.names.cellAt k (by rw[HNL.out];omega);show w.cell? ⟨g,k,none⟩=_;rw[this];simp[hk])
 rw[<-hlen]at c0 c1 c2 hl;clear h3 hlen;go_enter func74,ntmps74;go_wp2;go_loopw [5] (fun i wr=>∃k:Nat,k<=len/\i= .int .i64 k/\Hid (∀j (h:j<l.length),j<k->(l[j]).1≠n)/\wr=w) (fun i _=>len-(intOf i).toNat)
 case atStart=>exact⟨0,om,rfl,hid (fun j h hj=>om),rfl⟩
 case round=>
  obtain⟨k,hk,rfl,HT,rfl⟩:=hrel;by_cases hlt:k<len
  ·have hlt2:(k:Int)<(len:Int):=om;have hkl:k<l.length:=by rw[<-HLEN.out];exact hlt
   obtain⟨hck,g,rfl⟩:=HCELL.out k hkl;have hc:wr.cell? ⟨g,k,none⟩=some (.string (l[k]).1):=hck;obtain⟨x,hx⟩:∃x,x=(l[k]).1:=⟨_,rfl⟩
   rw[<-hx]at hc;have HX:=hid hx;clear hck hx;by_cases hxn:x=n
   ·have hb:(x.toList==n.toList)=true:=by rw[a54,decide_eq_true hxn]
    have HF:=hid (aaG hkl HT.out (HX.out.symm.trans hxn));clear hxn;go_wp2;go_ret;refine⟨?_,?_,TS.refl _ _ _⟩
    ·rw[HF.out.1];rfl
    rw[HF.out.2];exact⟨_,_,_,H3.out,HK0.out⟩
   have hb:(x.toList==n.toList)=false:=by rw[a54,decide_eq_false hxn]
   have HT2:Hid (∀j (h:j<l.length),j<k+1->(l[j]).1≠n):=hid (fun j h hj=>by
    by_cases e:j=k
    ·subst e;rw[<-HX.out];exact hxn
    exact HT.out j h om)
   clear hxn;go_wp2;go_roundw
   case rel=>exact⟨k+1,om,by go_num,HT2,trivial⟩
   case measure=>simp[intOf];omega
  obtain rfl:k=len:=om;have HF:=hid (adT fun j h=>HT.out j h (by rw[HLEN.out];exact h))
  have HFIN:=hid (fun(w':World) (u v t:Value) (h:Says3 w' S B u v t (l.map (fun x=>x.1)++[n]) (l.map (fun x=>x.2.1)++[emp]) (l.map (fun x=>x.2.2)++[0])) (hk:Kept K S w0 w' u.ownBlock v.ownBlock t.ownBlock)=>show SaysK K w0 w' S B (a0G l n)from by
   rw[HF.out.2];exact⟨u,v,t,by rw[aoE,aoE,aoE];exact h,hk⟩)
  have HR:Hid (Says3 wr S B (.slice ua k uc) (.slice va k vc) (.slice ta k tc) (l.map fun x=>x.1) (l.map fun x=>x.2.1) (l.map fun x=>x.2.2)):=hid (by
   have h9:=H3'.out;rw[HNL.out,HTL.out,HSL.out,<-HLEN.out]at h9;exact h9)
  rw[<-HLEN.out]at HNL HTL HSL
  have HK0':Hid (Kept K S w0 wr (Value.slice ua k uc).ownBlock (Value.slice va k vc).ownBlock (Value.slice ta k tc).ownBlock):=hid (by
   have h9:=HK0.out;cases ua<;>cases va<;>cases ta<;>exact h9)
  clear HK0;have HK0:=HK0';clear HK0';generalize (l.map fun x=>x.1)=ns at *;generalize (l.map fun x=>x.2.1)=ts at *;generalize (l.map fun x=>x.2.2)=ss at *;have HN0:Hid (wr.ownsRow B 9 1 (.slice ua k uc) k (ns.map Value.string)):=hid (by have h9:=HR.out.names;rw[HNL.out]at h9;exact h9);have hSlt:=HR.out.lt;have hBs:=HR.out.size;have HBS0:=hid hBs;clear H3 H3' HCELL c1 c2 HT;go_wp2_with (at_builtin;refine wpList_append_lies _ rfl _ _ 22 rfl B 9 i0 (.string ⟨#[]⟩) 1 16 underlying22 hi0 hz0 hz1 hz2 rfl ox _ _ _ rfl (HN0.out.alloc _) ⟨wr.heap.size,0,none⟩ 1 1 [.string n] rfl rfl ?c1 ?c2 ox ?c4 ?c5 ?c6 (wr.heap.size+1) ?c7 ?_)
  case c1=>exact(a0h _ _ _)
  case c2=>intro u hu;simp at hu;subst hu;rfl
  case c4=>unfold maxLen;omega
  case c5=>omega
  case c6=>simp;omega
  case c7=>simp
  intro g1 cap1 w2 hown2 hgrow2 hat2 hlt2;have hN:=HR.out.name (ob:=.cells #[.string n] 9) (w2:=w2) (g:=g1) (cap:=cap1) (n:=n) (by rw[HNL.out];exact hown2) hgrow2 hat2;rw[HNL.out]at hN;obtain⟨hS1,⟨d0,d1⟩,hB1⟩:=hN;have HS1:=hid hS1;have HB1:=hid hB1;have HK1:=hid (HK0.out.turnU (j:=0) (x:=.slice (some ⟨g1,0,none⟩) (k+1) cap1) hgrow2 hat2);clear hown2 hgrow2 hat2 hlt2 hS1 hB1 HR HN0 c0 fz;obtain⟨e0,e1,e2,ez⟩:=HS1.out.cell;have HT1:Hid ((w2.setCell ⟨S,0,none⟩ (.slice (some ⟨g1,0,none⟩) (k+1) cap1)).ownsRow B 9 1 (.slice va k vc) k (ts.map Value.string)):=hid (by have h9:=HS1.out.texts;rw[HTL.out]at h9;exact h9);have hS2:S<w2.heap.size:=by have:=HS1.out.lt;rwa[aos]at this
  have hB2:B<=w2.heap.size:=by have:=HS1.out.size;rwa[aos]at this
  go_wp2_with (at_builtin;refine wpList_append_lies _ rfl _ _ 22 rfl B 9 i0 (.string ⟨#[]⟩) 1 16 underlying22 hi0 hz0 hz1 hz2 rfl ox _ _ _ rfl (HT1.out.alloc _) ⟨w2.heap.size,0,none⟩ 1 1 [.string ⟨#[]⟩] rfl rfl ?c1 ?c2 ox ?c4 ?c5 ?c6 (w2.heap.size+1) ?c7 ?_)
  case c1=>intro j u hj;have h9:=a0h (w2.setCell ⟨S,0,none⟩ (.slice (some ⟨g1,0,none⟩) (k+1) cap1)) (.string ⟨#[]⟩) 9 j u hj;rw[aos]at h9;exact h9
  case c2=>intro u hu;simp at hu;subst hu;rfl
  case c4=>unfold maxLen;omega
  case c5=>omega
  case c6=>simp;omega
  case c7=>simp
  intro g2 cap2 w3 hown3 hgrow3 hat3 hlt3;have hN:=HS1.out.text (ob:=.cells #[.string ⟨#[]⟩] 9) (w2:=w3) (g:=g2) (cap:=cap2) (n:=⟨#[]⟩) (by rw[HTL.out];exact hown3) hgrow3 (by rw[aos];exact hat3);rw[HTL.out]at hN;obtain⟨hS1,⟨d2,d3⟩,hB1⟩:=hN;have HS2:=hid hS1;have HB2:=hid (HB1.out.trans hB1);have HK2:=hid (HK1.out.turnV (j:=1) (x:=.slice (some ⟨g2,0,none⟩) (k+1) cap2) hgrow3 (by rw[aos];exact hat3));clear hown3 hgrow3 hat3 hlt3 hS1 hB1 HB1 HS1 HT1 e0 e1 e2 ez d0 d1 hS2;obtain⟨e0,e1,e2,ez⟩:=HS2.out.cell;have HU1:Hid ((w3.setCell ⟨S,1,none⟩ (.slice (some ⟨g2,0,none⟩) (k+1) cap2)).ownsRow B 3 1 (.slice ta k tc) k (ss.map (Value.int .i64))):=hid (by have h9:=HS2.out.sums;rw[HSL.out]at h9;exact h9);have hS2:S<w3.heap.size:=by have:=HS2.out.lt;rwa[aos]at this
  have hB3:B<=w3.heap.size:=by have:=HS2.out.size;rwa[aos]at this
  go_wp2_with (at_builtin;refine wpList_append_lies _ rfl _ _ 122 rfl B 3 i1 (.int .i64 0) 1 8 underlying122 hi1 hy0 hy1 hy2 rfl ox _ _ _ rfl (HU1.out.alloc _) ⟨w3.heap.size,0,none⟩ 1 1 [.int .i64 0] rfl rfl ?c1 ?c2 ox ?c4 ?c5 ?c6 (w3.heap.size+1) ?c7 ?_)
  case c1=>intro j u hj;have h9:=a0h (w3.setCell ⟨S,1,none⟩ (.slice (some ⟨g2,0,none⟩) (k+1) cap2)) (.int .i64 0) 3 j u hj;rw[aos]at h9;exact h9
  case c2=>intro u hu;simp at hu;subst hu;rfl
  case c4=>unfold maxLen;omega
  case c5=>omega
  case c6=>simp;omega
  case c7=>simp
  intro g3 cap3 w4 hown4 hgrow4 hat4 hlt4;have hN:=HS2.out.sum (ob:=.cells #[.int .i64 0] 3) (w2:=w4) (g:=g3) (cap:=cap3) (n:=0) (by rw[HSL.out];exact hown4) hgrow4;rw[HSL.out]at hN;obtain⟨hS1,⟨d4,d5⟩,hB1⟩:=hN;have HS3:=hid hS1;have HB3:=hid (HB2.out.trans hB1);have HK3:=hid (HK2.out.turnT (j:=2) (x:=.slice (some ⟨g3,0,none⟩) (k+1) cap3) hgrow4 (by rw[aos];exact hat4));clear hown4 hgrow4 hat4 hlt4 hS1 hB1 HB2 HS2 HU1 e0 e1 e2 ez d2 d3 hS2;obtain⟨e0,e1,e2,ez⟩:=HS3.out.cell;have hw1:IntKind.i64.wrap ((k:Int)+1-1)=(k:Int):=by rw[IntWalk.i64_in _ om];omega
  have hw2:IntKind.i64.wrap (k:Int)=(k:Int):=IntWalk.i64_in _ om;go_wp2;go_ret;refine⟨?_,HFIN.out _ _ _ _ HS3.out HK3.out,HB3.out⟩;rw[HF.out.1,<-HLEN.out];rfl
def AtNK(K:Nat->Prop)(w0:World)(S B:Nat)(l:List Rw)(n:ByteArray)(w:World)(e:Ending)(w':World):Prop:=∃g2 c2 g3 c3 len u,e= .returned (.int .i64 (a0g n l:Nat))/\NameAt w' S B (a0G l n) (a0g n l) n g2 c2 g3 c3 len u/\SaysK K w0 w' S B (a0G l n)/\TS S B w w'
theorem ak9(K:Nat->Prop)(w0:World)(S B:Nat)(l:List Rw)(n:ByteArray)(w:World)(h:SaysK K w0 w S B l)(hl:l.length<=1000):Calls prog 74 #[.pointer (some ⟨S,0,none⟩),.string n] w (AtNK K w0 S B l n w):=by
 refine(alV K w0 S B l n w h hl).mono ?_
 rintro e w' ⟨rfl,h2,hb⟩;obtain⟨h3,h4⟩:=a8S l n;obtain⟨g2,c2,g3,c3,len,u,h5⟩:=afX h2.at (n:=n) (by rw[h3];exact h4);rw[h3]at h5;exact⟨g2,c2,g3,c3,len,u,rfl,h5,h2,hb⟩
def a9T(S B:Nat)(r:ByteArray×Int)(w:World)(e:Ending)(w':World):Prop:=e= .returned (.tuple #[.string r.1,.int .i64 r.2])/\TS S B w w'
end Go.Proofs.YtdfkaijeppdhaaaGreatDoor
