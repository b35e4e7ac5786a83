/- Part of the proof. -/
import Derived.Test.YtdfkaijeppdhaaaGreatDoorZHs30
import Derived.Deep.AppendLies
set_option maxRecDepth 100000
set_option maxHeartbeats 8000000
set_option linter.unusedSimpArgs false
set_option linter.unusedVariables false

namespace Go.Proofs.YtdfkaijeppdhaaaGreatDoor.Fd
open Lib (hid)
open Proofs.Tryz Go.RowKit
theorem Cvl.ne{c:List Int}(h:Cvl c):c≠[]:=fun e=>by have:=h.lo;rw[e]at this;simp at this
theorem Cvl.pos{c:List Int}(h:Cvl c):∀x∈c,0<=x:=fun x hx=>(h.holds x hx).1
theorem Cvl.tot{c:List Int}(h:Cvl c):0<=tot c/\tot c<=8000:=by
 have ht:=a6F h c.length (aof _);rw[aoK]at ht;have:=h.hi;omega
theorem Cvl.shr{c:List Int}(h:Cvl c){e:Int}(r:Int)(he:0<=e)(hs:e<=Go.Proofs.YtdfkaijeppdhaaaGreatDoor.Fd.tot c):∃f Q,Shr c e (shareL c e r) f Q:=ajQ h.ne h.pos h.hi h.tot.2 he hs
theorem afy{c:List Int}{f:Int->Int}{Q B:Int}(hQ:1<=Q)(h:∀x∈c,0<=f x/\f x<=B):∀y∈c.map (fun x=>red (f x) Q),0<=y.1/\y.1<=B/\1<=y.2/\y.2<=Q:=fun y hy=>by
 obtain⟨x,hx,rfl⟩:=ap1.1 hy;obtain⟨h1,h2⟩:=h x hx;have a:=a8W (n:=f x) hQ h1;have b:=ab7 (n:=f x) (d:=Q) (B:=B) hQ om h2;omega
theorem a6H{c:List Int}(h:Cvl c){e:Int}(he:0<=e)(hs:e<=tot c):∀y∈eqW c e,0<=y.1/\y.1<=9000/\1<=y.2/\y.2<=9:=by
 obtain⟨p,q,hl,hp,hq,e1⟩:=a6G h.ne h.pos h.hi he hs;rw[e1];intro y hy
 have:=afy (B:=9000) hl.hq (fun x hx=>by
  have c1:=a0v hl.hq hp (h.holds x hx).1 (aoR x)
  have:x * q<=1000 * 9:=apR (h.holds x hx).2 hq (by have:=hl.hq;omega) om
  omega) y hy
 omega
theorem ag7{l:List a04}(h:∀y∈l,0<=y.1/\y.1<=9000/\1<=y.2/\y.2<=9):∀y∈a0E l,0<=y.1/\y.1<=9000/\1<=y.2/\y.2<=18:=fun y hy=>by
 obtain⟨x,hx,rfl⟩:=ap1.1 hy;have:=h x hx;have a:=a8W (n:=x.1) (d:=2 * x.2) om om;have b:=ab7 (n:=x.1) (d:=2 * x.2) (B:=9000) om om om;omega
theorem a6I{l:List a04}{A B:Int}(h:∀y∈l,0<=y.1/\y.1<=A/\1<=y.2/\y.2<=B)(hA:A<=1000000000)(hB:B<=1000000):Mod l:=fun y hy=>by
 have:=h y hy;omega
theorem a3L(c:List Int)(e:Int):(eqW c e).length=c.length:=by unfold eqW a5N;rw[aoB]
theorem a8D(l:List a04):(a0E l).length=l.length:=by unfold a0E;rw[aoB]
theorem GivesR.keep{l:List a04}{w w1:World}{e:Ending}{w':World}(hb:Below w.heap.size w w1)(h:GivesR l w1 e w'):GivesR l w e w':=by
 obtain⟨v,rfl,ho,hb2⟩:=h;exact⟨v,rfl,ho.base hb.size,below_trans hb hb2⟩
theorem ahw(v:Value)(c:List Int)(e0:Int)(w:World)(hv:IntsAt w v c)(hc:Cvl c)(he:0<=e0)(hes:e0<=tot c):
  Calls prog 302 #[v,.int .i64 e0] w (GivesR (a1r c (eqW c (tot c-e0))) w):=by
 have HV:=hid hv;have HH:=hid hc;have ht:=hc.tot;have E1:=hid (equal_any v c (tot c-e0) w hv hc om om);have M1:=hid (a6H hc (e:=tot c-e0) om om);have L1:=hid (a3L c (tot c-e0));have hhi:=hc.hi;clear hv hc;have l8:(eqW c (tot c-e0)).length<=9223372036854775807:=by rw[L1.out];omega
 have S:=hid (a5y v c w HV.out HH.out);generalize hg:eqW c (tot c-e0)=E at *;have HE:=hid hg;clear hg;generalize tot c=t at *;go_enter func302,ntmps302;go_wp2_with fail
 refine(S.out).mono ?_
 rintro e w' ⟨rfl,rfl⟩;go_wp2_with fail
 refine E1.out.mono ?_;rintro e w1 ⟨v1,rfl,ho,hb1⟩;go_wp2_with fail
 refine(aek v v1 c E w1 (HV.out.below hb1) (ho.at l8) HH.out L1.out (a6I M1.out om om)).mono ?_
 rintro e w2 ⟨v2,rfl,ho2,hb2⟩;have O:=hid (ho2.base hb1.size);have B:=hid (below_trans hb1 hb2);clear ho ho2 hb1 hb2;go_wp2;go_ret;exact⟨_,rfl,O.out,B.out⟩
def a5O(c:List Int)(e:Int):List a04:=if 2 * e>tot c then a1r c (a0E (eqW c (2 * (tot c-e))))else a0E (eqW c (2 * e))
theorem an8(v:Value)(c:List Int)(e0:Int)(w:World)(hv:IntsAt w v c)(hc:Cvl c)(he:0<=e0)(hes:e0<=tot c):
  Calls prog 303 #[v,.int .i64 e0] w (GivesR (a5O c e0) w):=by
 have HV:=hid hv;have HH:=hid hc;have ht:=hc.tot;have hhi:=hc.hi;have S:=hid (a5y v c w hv hc);by_cases h2:tot c<2 * e0
 ·have OL:Hid (a5O c e0=a1r c (a0E (eqW c (2 * (tot c-e0))))):=hid (by unfold a5O;rw[if_pos h2]);have E1:=hid (equal_any v c (2 * (tot c-e0)) w hv hc om om);have M1:=hid (a6H hc (e:=2 * (tot c-e0)) om om);have L1:=hid (a3L c (2 * (tot c-e0)));have l8:(eqW c (2 * (tot c-e0))).length<=8:=by rw[L1.out];omega
  rw[OL.out];clear OL hv hc;generalize hg:eqW c (2 * (tot c-e0))=E at *;clear hg;have M2:=hid (ag7 M1.out);have L2:Hid ((a0E E).length=c.length):=hid (by rw[a8D,L1.out]);have l9:(a0E E).length<=9223372036854775807:=by rw[L2.out];omega
  generalize tot c=t at *;go_enter func303,ntmps303;go_wp2_with fail
  refine(S.out).mono ?_
  rintro e w' ⟨rfl,rfl⟩;go_wp2_with fail
  refine E1.out.mono ?_;rintro e w1 ⟨v1,rfl,ho,hb1⟩;go_wp2_with fail
  refine(aej v1 E w1 (ho.at om) l8 (a6I M1.out om om)).mono ?_
  rintro e w2 ⟨v2,rfl,ho2,hb2'⟩;have hb2:=below_trans hb1 hb2';go_wp2_with fail
  refine(aek v v2 c (a0E E) w2 (HV.out.below hb2) (ho2.at l9) HH.out L2.out (a6I M2.out om om)).mono ?_
  rintro e w3 ⟨v3,rfl,ho3,hb3⟩;have O:=hid (ho3.base hb2.size);have B:=hid (below_trans hb2 hb3);clear ho ho2 ho3 hb1 hb2 hb2' hb3;go_wp2;go_ret;exact⟨_,rfl,O.out,B.out⟩
 have OL:Hid (a5O c e0=a0E (eqW c (2 * e0))):=hid (by unfold a5O;rw[if_neg h2]);have E1:=hid (equal_any v c (2 * e0) w hv hc om om);have M1:=hid (a6H hc (e:=2 * e0) om om);have L1:=hid (a3L c (2 * e0));have l8:(eqW c (2 * e0)).length<=8:=by rw[L1.out];omega
 rw[OL.out];clear OL hv hc;generalize hg:eqW c (2 * e0)=E at *;clear hg;generalize tot c=t at *;go_enter func303,ntmps303;go_wp2_with fail
 refine(S.out).mono ?_
 rintro e w' ⟨rfl,rfl⟩;go_wp2_with fail
 refine E1.out.mono ?_;rintro e w1 ⟨v1,rfl,ho,hb1⟩;go_wp2_with fail
 refine(aej v1 E w1 (ho.at om) l8 (a6I M1.out om om)).mono ?_
 rintro e w2 ⟨v2,rfl,ho2,hb2⟩;have O:=hid (ho2.base hb1.size);have B:=hid (below_trans hb1 hb2);clear ho ho2 hb1 hb2;go_wp2;go_ret;exact⟨_,rfl,O.out,B.out⟩
theorem alC(n:Int)(w:World)(h:betw 1 n 4=false):
  Calls prog 296 #[.int .i64 n] w fun e w'=>(∃v,e= .returned (.tuple #[v,.bool false]))/\Below w.heap.size w w':=by
 have H:=hid h;clear h;go_enter func296,ntmps296;go_wp2_with fail
 refine(between_any _ _ _ _).mono ?_
 rintro e w' ⟨rfl,rfl⟩;rw[H.out];go_wp2;go_ret2;exact⟨⟨_,rfl⟩,(aoi _ _).alloc (aof _) _⟩
theorem an9(w:World):
  Calls prog 296 #[.int .i64 1] w fun e w'=>e= .returned (.tuple #[.func (.func 300) #[] #[],.bool true])/\Below w.heap.size w w':=by
 have H:Hid (betw 1 1 4=true):=hid rfl;go_enter func296,ntmps296;go_wp2_with fail
 refine(between_any _ _ _ _).mono ?_
 rintro e w' ⟨rfl,rfl⟩;rw[H.out];go_wp2;go_ret2;exact⟨rfl,(aoi _ _).alloc (aof _) _⟩
theorem ana(w:World):
  Calls prog 296 #[.int .i64 2] w fun e w'=>e= .returned (.tuple #[.func (.func 301) #[] #[],.bool true])/\Below w.heap.size w w':=by
 have H:Hid (betw 1 2 4=true):=hid rfl;go_enter func296,ntmps296;go_wp2_with fail
 refine(between_any _ _ _ _).mono ?_
 rintro e w' ⟨rfl,rfl⟩;rw[H.out];go_wp2;go_ret2;exact⟨rfl,(aoi _ _).alloc (aof _) _⟩
theorem anb(w:World):
  Calls prog 296 #[.int .i64 3] w fun e w'=>e= .returned (.tuple #[.func (.func 302) #[] #[],.bool true])/\Below w.heap.size w w':=by
 have H:Hid (betw 1 3 4=true):=hid rfl;go_enter func296,ntmps296;go_wp2_with fail
 refine(between_any _ _ _ _).mono ?_
 rintro e w' ⟨rfl,rfl⟩;rw[H.out];go_wp2;go_ret2;exact⟨rfl,(aoi _ _).alloc (aof _) _⟩
theorem anc(w:World):
  Calls prog 296 #[.int .i64 4] w fun e w'=>e= .returned (.tuple #[.func (.func 303) #[] #[],.bool true])/\Below w.heap.size w w':=by
 have H:Hid (betw 1 4 4=true):=hid rfl;go_enter func296,ntmps296;go_wp2_with fail
 refine(between_any _ _ _ _).mono ?_
 rintro e w' ⟨rfl,rfl⟩;rw[H.out];go_wp2;go_ret2;exact⟨rfl,(aoi _ _).alloc (aof _) _⟩
def shareE(c:List Int)(n r:Int):Int:=if a44 c n=0 then (if betw 1 r 4 then 0 else 2)else a44 c n
def a0Z(c:List Int)(n r:Int):List a04:=if shareE c n r=0 then shareL c n r else []
def ab8(c:List Int)(n r:Int)(w:World)(e:Ending)(w':World):Prop:=
 ∃v,e= .returned (.tuple #[v,.int .i64 (shareE c n r)])/\OwnR w' w.heap.size v (a0Z c n r)/\Below w.heap.size w w'
theorem a5P{c:List Int}{n:Int}(h:a44 c n=0):Cvl c/\0<=n/\n<=tot c:=by
 unfold a44 at h;split at h
 ·rename_i h1
  split at h
  ·rename_i h2
   have hb:=(betw_iff _ _ _).1 h2
   exact⟨(abL c).1 h1,om,om⟩
  omega
 omega
theorem a6d{c:List Int}{n r:Int}(h:shareE c n r=0):a44 c n=0/\1<=r/\r<=4:=by
 unfold shareE at h;split at h
 ·split at h
  ·rename_i h1 h2
   have hb:=(betw_iff _ _ _).1 h2
   exact⟨h1,om,om⟩
  omega
 rename_i h1
 exact absurd h h1
theorem ahx(v:Value)(c:List Int)(n r:Int)(w:World)(hv:IntsAt w v c):
  Calls prog 290 #[v,.int .i64 n,.int .i64 r] w (ab8 c n r w):=by
 have HV:=hid hv;clear hv;by_cases h0:a44 c n=0
 ·obtain⟨hc,h1,h2⟩:=a5P h0;have A:=hid h0;have HH:=hid hc;have h3:=hc.tot;clear h0 hc;cases hr:betw 1 r 4 with
  |false=>
   have R:=hid hr;have E0:Hid (shareE c n r=2):=hid (by unfold shareE;rw[if_pos A.out,hr];rfl);have V0:Hid (a0Z c n r=[]):=hid (by unfold a0Z;rw[E0.out];rfl);clear hr;go_enter func290,ntmps290;go_wp2_with fail
   refine(a3g _ _ _ _ HV.out).mono ?_
   rintro e w' ⟨rfl,rfl⟩;rw[A.out];go_wp2_with fail
   refine(alC _ _ R.out).mono ?_
   rintro e w1 ⟨⟨v1,rfl⟩,hb1⟩;go_wp2;go_ret2;exact⟨.slice none 0 0,by rw[E0.out];rfl,by rw[V0.out];exact OwnR.nil _ _,hb1⟩
  | true=>
   have hb:=(betw_iff _ _ _).1 hr
   have h4:r=1\/r=2\/r=3\/r=4:=om;clear hr hb;rcases h4 with rfl|rfl|rfl|rfl
   ·have h5:n<=8000:=om;have PC:=fun w1 (q:IntsAt w1 v c)=>abP v c n w1 q HH.out h1 h5;have E0:Hid (shareE c n 1=0):=hid (by unfold shareE;rw[if_pos A.out];rfl);have V0:Hid (a0Z c n 1=a1Q c n):=hid (by unfold a0Z;rw[if_pos E0.out];rfl);have PH:=hid PC;clear PC;go_enter func290,ntmps290;go_wp2_with fail
    refine(a3g _ _ _ _ HV.out).mono ?_
    rintro e w' ⟨rfl,rfl⟩;rw[A.out];go_wp2_with fail
    refine(an9 _).mono ?_
    rintro e w1 ⟨rfl,hb1⟩;go_wp2_with fail
    refine(PH.out w1 (HV.out.below hb1)).mono ?_
    rintro e w2 ⟨v2,rfl,ho2,hb2⟩;have O:=hid (ho2.base hb1.size);have B:=hid (below_trans hb1 hb2);clear ho2 hb1 hb2;go_wp2;go_ret2;exact⟨_,by rw[E0.out];rfl,by rw[V0.out];exact O.out,B.out⟩
   ·have E0:Hid (shareE c n 2=0):=hid (by unfold shareE;rw[if_pos A.out];rfl);have V0:Hid (a0Z c n 2=eqW c n):=hid (by unfold a0Z;rw[if_pos E0.out];rfl);go_enter func290,ntmps290;go_wp2_with fail
    refine(a3g _ _ _ _ HV.out).mono ?_
    rintro e w' ⟨rfl,rfl⟩;rw[A.out];go_wp2_with fail
    refine(ana _).mono ?_
    rintro e w1 ⟨rfl,hb1⟩;go_wp2_with fail
    refine(equal_any v c n w1 (HV.out.below hb1) HH.out h1 h2).mono ?_
    rintro e w2 ⟨v2,rfl,ho2,hb2⟩;have O:=hid (ho2.base hb1.size);have B:=hid (below_trans hb1 hb2);clear ho2 hb1 hb2;go_wp2;go_ret2;exact⟨_,by rw[E0.out];rfl,by rw[V0.out];exact O.out,B.out⟩
   ·have E0:Hid (shareE c n 3=0):=hid (by unfold shareE;rw[if_pos A.out];rfl);have V0:Hid (a0Z c n 3=a1r c (eqW c (tot c-n))):=hid (by unfold a0Z;rw[if_pos E0.out];rfl);go_enter func290,ntmps290;go_wp2_with fail
    refine(a3g _ _ _ _ HV.out).mono ?_
    rintro e w' ⟨rfl,rfl⟩;rw[A.out];go_wp2_with fail
    refine(anb _).mono ?_
    rintro e w1 ⟨rfl,hb1⟩;go_wp2_with fail
    refine(ahw v c n w1 (HV.out.below hb1) HH.out h1 h2).mono ?_
    rintro e w2 ⟨v2,rfl,ho2,hb2⟩;have O:=hid (ho2.base hb1.size);have B:=hid (below_trans hb1 hb2);clear ho2 hb1 hb2;go_wp2;go_ret2;exact⟨_,by rw[E0.out];rfl,by rw[V0.out];exact O.out,B.out⟩
   have E0:Hid (shareE c n 4=0):=hid (by unfold shareE;rw[if_pos A.out];rfl);have V0:Hid (a0Z c n 4=a5O c n):=hid (by unfold a0Z;rw[if_pos E0.out];rfl);go_enter func290,ntmps290;go_wp2_with fail
   refine(a3g _ _ _ _ HV.out).mono ?_
   rintro e w' ⟨rfl,rfl⟩;rw[A.out];go_wp2_with fail
   refine(anc _).mono ?_
   rintro e w1 ⟨rfl,hb1⟩;go_wp2_with fail
   refine(an8 v c n w1 (HV.out.below hb1) HH.out h1 h2).mono ?_
   rintro e w2 ⟨v2,rfl,ho2,hb2⟩;have O:=hid (ho2.base hb1.size);have B:=hid (below_trans hb1 hb2);clear ho2 hb1 hb2;go_wp2;go_ret2;exact⟨_,by rw[E0.out];rfl,by rw[V0.out];exact O.out,B.out⟩
 have E0:Hid (shareE c n r=a44 c n):=hid (by unfold shareE;rw[if_neg h0]);have V0:Hid (a0Z c n r=[]):=hid (by unfold a0Z;rw[E0.out,if_neg h0]);have hb:(a44 c n != 0)=true:=by rw[bne_iff_ne];exact h0
 clear h0;go_enter func290,ntmps290;go_wp2_with fail
 refine(a3g _ _ _ _ HV.out).mono ?_
 rintro e w' ⟨rfl,rfl⟩;go_wp2;go_ret2;exact⟨.slice none 0 0,by rw[E0.out];rfl,by rw[V0.out];exact OwnR.nil _ _,aoi _ _⟩
end Go.Proofs.YtdfkaijeppdhaaaGreatDoor.Fd
namespace Go.Proofs.YtdfkaijeppdhaaaGreatDoor.Fd
open Lib (hid)
open Proofs.Tryz Go.RowKit
theorem OwnR.drew{w:World}{B:Nat}{v:Value}{l:List a04}(h:OwnR w B v l):OwnR w.drew B v l:=own_below h ((aoi _ w).drew)
theorem acA(v x:Value)(c:List Int)(l:List a04)(w:World)(hv:IntsAt w v c)(hx:RatsAt w x l)(hc:Cvl c)(hl:l.length=c.length)(hm:Mod l):
  Calls prog 219 #[v,x] w (GivesR (a1r c l) w):=by
 obtain⟨i0,hi0,hz0,hz1,hz2⟩:=info_parts Tryz.infoRatio;have hhi:=hc.hi;have hlo:=hc.lo;have lc:c.length<=l.length:=om;obtain⟨b,off,cap,rfl,hcc⟩:=ints_cell hv om;obtain⟨b2,off2,cap2,hcap,rfl,hcl⟩:=acu hx om;have HC:=hid hcc;have HR:=hid hcl;have HM:=hid hm;have HH:=hid hc;have HL:=hid (a8C c l hl);clear hm hv hx hc hl hcc hcl;go_enter func219,ntmps219;go_wp2;go_loopw [5,6] (fun o i wr=>∃k:Nat,k<=c.length/\i= .int .i64 k/\OwnR wr w.heap.size o ((a1r c l).take k)/\Below w.heap.size w wr) (fun _ i _=>c.length-(intOf i).toNat)
 case atStart=>exact⟨0,aot _,rfl,OwnR.nil _ _,aoi _ _⟩
 case round=>
  obtain⟨k,hk,rfl,hown,hbel⟩:=hrel;have hTk:((a1r c l).take k).length<=8:=by have:=HL.out;simp;omega
  by_cases hlt:k<c.length
  ·have hkl:k<l.length:=om;obtain⟨x0,d0⟩:=HR.out k hkl;have c0:=HC.out k hlt;have x1:=keep_cell hbel x0;have d1:=keep_cell hbel d0;have c1:=keep_cell hbel c0;have hx:=HM.out _ (a2D hkl);have hcb:=HH.out.holds _ (a1v hlt);have T:=hid (acz hlt hkl);have hi0':(0:Int)<=(k:Int):=Int.natCast_nonneg _;have hi1:(k:Int)<(c.length:Int):=om;have hi2:(k:Int)<(l.length:Int):=om;generalize l.getD k (0,0)=xd at *;obtain⟨n,d⟩:=xd;simp only at x1 d1 hx T x0 d0;generalize c.getD k 0=cl at *;have m1:0<=cl * d/\cl * d<=1000 * 1000000:=⟨apk om om,apR om om om om⟩
   have RQ:=hid (fun W=>a4s (cl * d-n) d W om om om om);have hbl:b<w.heap.size:=World.block_lt_of_cell? _ _ c0;have hbl2:b2<w.heap.size:=World.block_lt_of_cell? _ _ x0;have C0:=hid c0;have X0:=hid x0;have D0:=hid d0;have HO:=hid hown;have HB:=hid hbel;have hsz:=hbel.size;have e1:IntKind.i64.wrap (cl * d)=cl * d:=IntWalk.i64_in _ om;have e2:IntKind.i64.wrap (cl * d-n)=cl * d-n:=IntWalk.i64_in _ om;clear c0 x0 d0 hown hbel;go_wp2_with fail
   go_region_held3 (fun w'=>w'.cell? ⟨b,off+k,none⟩=some (.int .i64 cl)/\w'.cell? ⟨b2,off2+k * 2,none⟩=some (.int .i64 n)/\w'.cell? ⟨b2,off2+k * 2+1,none⟩=some (.int .i64 d))
    (first
     |(exact⟨keep_cell hB3 C0.out,keep_cell hB3 X0.out,keep_cell hB3 D0.out⟩)
     |(exact⟨keep_cell (hbW.alloc hbW.size _) C0.out,keep_cell (hbW.alloc hbW.size _) X0.out,keep_cell (hbW.alloc hbW.size _) D0.out⟩)
     |(exact⟨keep_cell hbW C0.out,keep_cell hbW X0.out,keep_cell hbW D0.out⟩)
     |go_keep)
    (first
     |(go_at_call 221;refine(RQ.out _).mono ?_;rintro e w2 ⟨rfl,hb2⟩;have hbW:=below_trans HB.out.drew hb2;have hownW:=HO.out.drew.below hb2;unfold a1c)
     |(refine step_append_lies _ oy _ _ _ oy w.heap.size 199 i0 _ 2 16 underlying195 hi0 hz0 hz1 hz2 rfl om _ _ _ oy (hownW.row.alloc _) ⟨w2.heap.size,0,none⟩ 1 1 [.int .i64 (rn (cl * d-n) d),.int .i64 (rd (cl * d-n) d)] oy oy (World.news_of_block (cs:=#[.int .i64 (rn (cl * d-n) d),.int .i64 (rd (cl * d-n) d)]) (t:=199) (fr:=(0,0)) (heap_alloc_new w2 _)) (by simp[Value.oneCell']) om (by unfold maxLen;omega) om (by have:=hbW.size;simp;omega) (w2.heap.size+1) oz ?_;intro gg cp w3 hown' hgrow hat hlt3;have hB3:=below_append hbW hbW.size hownW.row hgrow))
   have O3:Hid (OwnR w3 w.heap.size _ ((a1r c l).take (k+1))):=hid (by rw[T.out];exact OwnR.snoc (by first|rfl|simp) hown');have B3:=hid hB3;clear hown' hgrow hownW hbW hB3 e1 e2 hb2 x1 d1 c1;go_wp2;go_roundw
   case rel=>exact⟨k+1,om,by go_num,(by have:=O3.out;rwa[aoy]at this),B3.out⟩
   case measure=>simp[intOf];omega
  have e:k=c.length:=om;subst e;have O:Hid (OwnR wr w.heap.size u5 (a1r c l)):=hid (by rwa[aou (by rw[HL.out];exact aof _)]at hown);have B:=hid hbel;clear hown hbel;go_wp2;go_ret;exact⟨_,rfl,O.out,B.out⟩
end Go.Proofs.YtdfkaijeppdhaaaGreatDoor.Fd
namespace Go.Proofs.YtdfkaijeppdhaaaGreatDoor.Fd
open Lib (hid)
open Proofs.Tryz Go.RowKit
theorem acB:∀(l:List a04) (k:Nat) (x:a04),k<l.length->a17 (l.set k x)=((a17 l).set (k * 2) (.int .i64 x.1)).set (k * 2+1) (.int .i64 x.2)
 |d::l,0,x,_=>by simp[a17,a6u]
 |d::l,k+1,x,h=>by
  have ih:=acB l k x (by simpa using h);rw[show (k+1) * 2=k * 2+2 by omega,show k * 2+2+1=(k * 2+1)+2 by omega];simp only[a17,List.flatMap_cons,aoN,a6u]at ih⊢;simp only[aoA,aoM,aoN];rw[ih]
theorem OwnR.set{w:World}{B g cap:Nat}{l:List a04}{n:Nat}(h:OwnR w B (.slice (some ⟨g,0,none⟩) n cap) l)(hn:n=l.length){k:Nat}(hk:k<l.length)(x:a04):
  OwnR ((w.setCell ⟨g,k * 2,none⟩ (.int .i64 x.1)).setCell ⟨g,k * 2+1,none⟩ (.int .i64 x.2)) B (.slice (some ⟨g,0,none⟩) n cap) (l.set k x):=by
 subst hn;unfold OwnR at h⊢;have h1:=(World.ownsRow.stored h (k * 2) (.int .i64 x.1)).1
 have h2:=(World.ownsRow.stored h1 (k * 2+1) (.int .i64 x.2)).1
 rw[ap8,acB l k x hk];exact h2
theorem OwnR.split{w:World}{B:Nat}{v:Value}{l:List a04}(h:OwnR w B v l)(h0:0<l.length):∃g cap,v= .slice (some ⟨g,0,none⟩) l.length cap/\B<=g/\g<w.heap.size:=by
 rcases h.2 with⟨rfl,hn⟩|⟨g,cap,cur,rfl,hg,hh,_⟩
 ·omega
 exact⟨g,cap,rfl,hg,(aog.1 hh).1⟩
theorem OwnR.cells{w:World}{B g cap n:Nat}{l:List a04}(h:OwnR w B (.slice (some ⟨g,0,none⟩) n cap) l)(hn:n=l.length){k:Nat}(hk:k<l.length):
  w.cell? ⟨g,k * 2,none⟩=some (.int .i64 (l.getD k (0,0)).1)/\w.cell? ⟨g,k * 2+1,none⟩=some (.int .i64 (l.getD k (0,0)).2)/\w.frozen? ⟨g,k * 2,none⟩=false/\w.frozen? ⟨g,k * 2+1,none⟩=false:=by
 subst hn;obtain⟨e1,e2⟩:=a47 l k hk;exact⟨(World.ownsRow.cellAt h _ om).trans e1,(World.ownsRow.cellAt h _ om).trans e2,World.ownsRow.frozenAt h _,World.ownsRow.frozenAt h _⟩
def a2R(l:List a04)(k:Nat):List a04:=(a0E l).take k++l.drop k
theorem ad9(l:List a04)(k:Nat)(hk:k<=l.length):(a2R l k).length=l.length:=by
 unfold a2R;simp[a0E];omega
theorem ajW{l:List a04}{k:Nat}(hk:k<l.length):(a2R l k).getD k (0,0)=l.getD k (0,0):=by
 unfold a2R;have:((a0E l).take k).length=k:=by simp[a0E];omega
 simp only[aoh];rw[aoX om,this,List.getElem?_drop];simp
theorem ahy{l:List a04}{k:Nat}(hk:k<l.length):(a2R l k).set k (red (l.getD k (0,0)).1 (2 * (l.getD k (0,0)).2))=a2R l (k+1):=by
 unfold a2R;have:((a0E l).take k).length=k:=by simp[a0E];omega
 have e:l.drop k=l[k]::l.drop (k+1):=aoL hk;rw[List.set_append_right _ _ om,this,aq8,acy hk,e];simp only[aoU,aoT,apY]
theorem ahz(l:List a04):a2R l l.length=a0E l:=by
 unfold a2R;rw[List.drop_length,apj,aou (by simp[a0E])]
theorem a9h(EQ:∀(v:Value) (c:List Int) (e0:Int) (w:World),IntsAt w v c->Cvl c->0<=e0->e0<=tot c->Calls prog 218 #[v,.int .i64 e0] w (GivesR (eqW c e0) w))
  (v:Value)(c:List Int)(e0:Int)(w:World)(hv:IntsAt w v c)(hc:Cvl c)(he:0<=e0)(hes:2 * e0<=tot c):
  Calls prog 220 #[v,.int .i64 e0] w (GivesR (a0E (eqW c (2 * e0))) w):=by
 have E1:=hid (EQ v c (2 * e0) w hv hc om hes);have M1:=hid (a6H hc (e:=2 * e0) om hes);have hll:=a3L c (2 * e0);have hhi:=hc.hi;have hlo:=hc.lo;have ht:=hc.tot;have e8:e0<=8000:=om;clear hv hc EQ hes ht;generalize eqW c (2 * e0)=l at *;have l0:0<l.length:=om;have l8:l.length<=8:=om;clear hll hhi hlo;go_enter func220,ntmps220;go_wp2_with fail
 refine E1.out.mono ?_;rintro e w1 ⟨v1,rfl,ho,hb1⟩;obtain⟨g,cap,rfl,hg,hgl⟩:=ho.split l0;have HO:=hid ho;have HB:=hid hb1;clear ho hb1 E1;go_wp2;go_loopw [6] (fun i wr=>∃k:Nat,k<=l.length/\i= .int .i64 k/\OwnR wr w.heap.size (.slice (some ⟨g,0,none⟩) l.length cap) (a2R l k)/\Below w.heap.size w wr/\g<wr.heap.size) (fun i _=>l.length-(intOf i).toNat)
 case atStart=>exact⟨0,aot _,rfl,by have:=HO.out;unfold a2R;simpa using this,HB.out,hgl⟩
 case round=>
  obtain⟨k,hk,rfl,hown,hbel,hgr⟩:=hrel;by_cases hlt:k<l.length
  ·have hn:=(ad9 l k hk).symm
   obtain⟨x1,d1,f1,f2⟩:=hown.cells (k:=k) hn om;rw[ajW hlt]at x1 d1;have hx:=M1.out _ (a2D hlt);have T:=hid (ahy hlt);have hi0':(0:Int)<=(k:Int):=Int.natCast_nonneg _;have hi2:(k:Int)<(l.length:Int):=om;have HN:=hid hn;clear hn;generalize l.getD k (0,0)=xd at *;obtain⟨n,d⟩:=xd;simp only at x1 d1 hx T;have RQ:=hid (fun W=>a4s n (2 * d) W om om om om);have HO2:=hid hown;have HB2:=hid hbel;have e1:IntKind.i64.wrap (2 * d)=2 * d:=IntWalk.i64_in _ om;clear hown hbel;go_wp2_with fail
   go_region_with ((go_at_call 221;refine(RQ.out _).mono ?_;rintro e w2 ⟨rfl,hb2⟩;have hownW:=HO2.out.drew.below hb2;obtain⟨x2,d2,g1,g2⟩:=hownW.cells (k:=k) HN.out (by have:=HN.out;omega);have hbW:=below_trans HB2.out.drew hb2;unfold a1c))
   all_goals
    have O3:=hid (hownW.set HN.out (k:=k) (by have:=HN.out;omega) (rn n (2 * d),rd n (2 * d)));have hgw:g<w2.heap.size:=by have:=hb2.size;rw[show wr.drew.heap.size=wr.heap.size from rfl]at this;omega
    have B3:=hid ((hbW.setCell (p:=⟨g,k * 2,none⟩) hg (.int .i64 (rn n (2 * d)))).setCell (p:=⟨g,k * 2+1,none⟩) hg (.int .i64 (rd n (2 * d))));have T2:Hid ((a2R l k).set k (rn n (2 * d),rd n (2 * d))=a2R l (k+1)):=T;clear hownW hbW hb2 x1 d1 f1 f2 x2 d2 g1 g2 e1;go_wp2;go_roundw
    case rel=>exact⟨k+1,om,by go_num,(by rw[<-T2.out];exact O3.out),B3.out,by simpa using hgw⟩
    case measure=>simp[intOf];omega
  have e:k=l.length:=om;subst e;have O:Hid (OwnR wr w.heap.size (.slice (some ⟨g,0,none⟩) l.length cap) (a0E l)):=hid (by rwa[ahz]at hown);have B:=hid hbel;clear hown hbel;go_wp2;go_ret;exact⟨_,rfl,O.out,B.out⟩
end Go.Proofs.YtdfkaijeppdhaaaGreatDoor.Fd
namespace Go.Proofs.YtdfkaijeppdhaaaGreatDoor.Fd
def a3B:List a04->Int
 |[]=>0
 |x::l=>(if x.2=0 then 1 else 0)+a3B l
def a48:List a04->Int
 |[]=>0
 |x::l=>x.1+a48 l
theorem a3Q:∀o,0<=a3B o
 |[]=>by simp[a3B]
 |x::l=>by have:=a3Q l;unfold a3B;split<;>omega
theorem a7t:∀(o:List a04) (k:Nat),k<o.length->(o.getD k (0,0)).2=0->1<=a3B o
 |x::l,0,_,h=>by
  have:=a3Q l;rw[aoV]at h;unfold a3B;rw[if_pos h];omega
 |x::l,k+1,hk,h=>by
  have:=a7t l k (by simpa using hk) (by simpa using h);unfold a3B;split<;>omega
theorem ael:∀(o:List a04) (k:Nat) (y:a04),k<o.length->a48 (o.set k y)=a48 o-(o.getD k (0,0)).1+y.1
 |x::l,0,y,_=>by simp[a48];omega
 |x::l,k+1,y,h=>by
  have:=ael l k y (by simpa using h);simp only[aoN,a48,aqa];omega
theorem aem:∀(o:List a04) (k:Nat) (y:a04),k<o.length->(o.getD k (0,0)).2=0->y.2≠0->a3B (o.set k y)=a3B o-1
 |x::l,0,y,_,h,hy=>by
  rw[aoV]at h;simp[a3B,h,hy];omega
 |x::l,k+1,y,h,h0,hy=>by
  have:=aem l k y (by simpa using h) (by simpa using h0) hy;simp only[aoN,a3B];omega
theorem acC:∀n,a48 (List.replicate n ((0,0):a04))=0
 |0=>rfl
 |n+1=>by simp only[List.replicate_succ,a48];rw[acC n];rfl
theorem acD:∀n:Nat,a3B (List.replicate n ((0,0):a04))=n
 |0=>rfl
 |n+1=>by simp only[List.replicate_succ,a3B];rw[acD n];simp;omega
theorem ada{o:List a04}{k:Nat}(y:a04)(hk:k<o.length):(o.set k y).getD k (0,0)=y:=by
 simp[aoh,hk]
theorem a6J{o:List a04}{k j:Nat}(y:a04)(h:k≠j):(o.set k y).getD j (0,0)=o.getD j (0,0):=by
 simp[aoh,List.getElem?_set_ne h]
structure RS(c:List Int)(e:Int)(o:List a04)(rest left:Int):Prop where
 len:o.length=c.length
 each:∀k,k<c.length->o.getD k (0,0)=(0,0)\/o.getD k (0,0)=(c.getD k 0,1)
 rs:rest=e-a48 o
 lf:left=a3B o
 le:∀k,k<c.length->(o.getD k (0,0)).2≠0->c.getD k 0 * left<=rest
 r0:0<=rest
theorem RS.start(c:List Int){e:Int}(he:0<=e):RS c e (List.replicate c.length (0,0)) e c.length where
 len:=by simp
 each:=fun k hk=>.inl (by simp[aoh,hk])
 rs:=by rw[acC];omega
 lf:=(acD _).symm
 le:=fun k hk h=>absurd (by simp[aoh,hk]) h
 r0:=he
theorem ajX{x y p q:Int}(hq:1<=q)(h1:x * q<=p)(h2:y * q<=p):x * (q-1)<=p-y:=by
 refine Int.le_of_mul_le_mul_right (a:=q) ?_ om;have e1:x * (q-1) * q=x * q * (q-1):=apX _ _ _;have e2:(p-y) * q=p * (q-1)+(p-y * q):=by rw[apT,Int.mul_sub];omega
 have e3:x * q * (q-1)<=p * (q-1):=aoo h1 om;omega
theorem RS.pay{c:List Int}{e:Int}{o:List a04}{rest left:Int}(h:RS c e o rest left)(hc:∀x∈c,0<=x){k:Nat}(hk:k<c.length)(h0:(o.getD k (0,0)).2=0)(hle:c.getD k 0 * left<=rest):
  RS c e (o.set k (c.getD k 0,1)) (rest-c.getD k 0) (left-1)/\1<=left:=by
 have hko:k<o.length:=by have:=h.len;omega
 have hl:=a7t o k hko h0;rw[<-h.lf]at hl;have hx:0<=c.getD k 0:=hc _ (by rw[aoh,aoj hk];simp)
 have hz:o.getD k (0,0)=(0,0):=by
  rcases h.each k hk with h1|h1
  ·exact h1
  rw[h1]at h0;exact absurd h0 oz
 refine⟨⟨by rw[ap8];exact h.len,fun j hj=>?_,?_,?_,fun j hj hp=>?_,?_⟩,hl⟩
 ·by_cases hjk:k=j
  ·subst hjk;exact .inr (ada _ hko)
  rw[a6J _ hjk];exact h.each j hj
 ·rw[ael o k _ hko,hz,h.rs];simp only;omega
 ·rw[aem o k _ hko h0 oz,h.lf]
 ·by_cases hjk:k=j
  ·subst hjk;exact ajX hl hle hle
  rw[a6J _ hjk]at hp;exact ajX hl (h.le j hj hp) hle
 have:c.getD k 0 * 1<=c.getD k 0 * left:=aph hl hx;omega
def a3W(p q:Int)(x:a04):a04:=if x.2=0 then red p q else x
theorem ag8(p q:Int):∀(c:List Int) (o:List a04),o.length=c.length->
  (∀k,k<c.length->o.getD k (0,0)=(0,0)/\p<=c.getD k 0 * q\/o.getD k (0,0)=(c.getD k 0,1)/\c.getD k 0 * q<=p)->a0w (cap p q) c=a48 o * q+a3B o * p
 |[],[],_,_=>by simp[a0w,a48,a3B]
 |x::c,y::o,hl,h=>by
  have ih:=ag8 p q c o (by simpa using hl) (fun k hk=>by have:=h (k+1) (by simpa using hk);simpa using this);have h0:=h 0 oz;simp only[aoV]at h0;simp only[a0w,a48,a3B];rw[ih];rcases h0 with⟨rfl,h1⟩|⟨rfl,h1⟩
  ·simp only[cap,if_true];rw[apQ h1,apS,apS];omega
  simp only[cap];rw[aq0 h1,apS,apS,if_neg om];omega
theorem acE:∀(c:List Int) (o:List a04),o.length=c.length->(∀k,k<c.length->o.getD k (0,0)=(c.getD k 0,1))->o=c.map (fun x=>(x,1))/\a48 o=a0w id c
 |[],[],_,_=>by simp[a0w,a48]
 |x::c,y::o,hl,h=>by
  obtain⟨ih1,ih2⟩:=acE c o (by simpa using hl) (fun k hk=>by have:=h (k+1) (by simpa using hk);simpa using this);have h0:=h 0 oz;simp only[aoV]at h0;subst h0;simp only[a0w,a48,aoJ,id];rw[ih2];exact⟨by rw[<-ih1],rfl⟩
theorem ag9(p q:Int)(hq:1<=q):∀(c:List Int) (o:List a04),o.length=c.length->
  (∀k,k<c.length->o.getD k (0,0)=(0,0)/\p<=c.getD k 0 * q\/o.getD k (0,0)=(c.getD k 0,1)/\c.getD k 0 * q<=p)->o.map (a3W p q)=a5N c p q
 |[],[],_,_=>by simp[a5N]
 |x::c,y::o,hl,h=>by
  have ih:=ag9 p q hq c o (by simpa using hl) (fun k hk=>by have:=h (k+1) (by simpa using hk);simpa using this);have h0:=h 0 oz;simp only[aoV]at h0;simp only[a5N,aoJ]at ih⊢;rw[ih];congr 1;rcases h0 with⟨rfl,h1⟩|⟨rfl,h1⟩
  ·simp only[a3W,cap,if_true];rw[apQ h1]
  simp only[a3W,cap];rw[aq0 h1,acw x q hq,if_neg om]
theorem RS.fin{c:List Int}{e:Int}{o:List a04}{rest left:Int}(h:RS c e o rest left)(h0:c≠[])(hc:∀x∈c,0<=x/\x<=1000)(hs:e<=tot c)
  (hn:∀k,k<c.length->(o.getD k (0,0)).2=0->rest<c.getD k 0 * left):o.map (a3W rest left)=eqW c e:=by
 have hl0:=a3Q o;rw[<-h.lf]at hl0;by_cases hl:1<=left
 ·have key:∀k,k<c.length->o.getD k (0,0)=(0,0)/\rest<=c.getD k 0 * left\/o.getD k (0,0)=(c.getD k 0,1)/\c.getD k 0 * left<=rest:=fun k hk=>by
   rcases h.each k hk with h1|h1
   ·have:=hn k hk (by rw[h1]);exact .inl ⟨h1,om⟩
   exact .inr ⟨h1,h.le k hk (by rw[h1];simp)⟩
  rw[ag9 rest left hl c o h.len key];refine ajP h0 hs ⟨hl,?_⟩;rw[ag8 rest left c o h.len key,<-h.lf];have:a48 o=e-rest:=by have:=h.rs;omega
  rw[this,apT,aps rest left];omega
 have hl1:left=0:=om
 have key:∀k,k<c.length->o.getD k (0,0)=(c.getD k 0,1):=fun k hk=>by
  rcases h.each k hk with h1|h1
  ·have:=a7t o k (by have:=h.len;omega) (by rw[h1]);have:=h.lf;omega
  exact h1
 obtain⟨e1,e2⟩:=acE c o h.len key;rw[<-a5L]at e2;have he:e=tot c:=by have:=h.rs;have:=h.r0;omega
 have hcap:∀x∈c,cap 1000 1 x=x:=fun x hx=>by unfold cap;have:=(hc x hx).2;omega
 rw[<-ajP h0 hs (p:=1000) (q:=1) ⟨om,by rw[a7p (g:=id) (fun x hx=>hcap x hx),<-a5L];omega⟩,e1];unfold a5N;rw[apx];refine apN fun x hx=>?_;simp only[Function.comp,a3W];rw[if_neg om,hcap x hx,abM]
end Go.Proofs.YtdfkaijeppdhaaaGreatDoor.Fd
