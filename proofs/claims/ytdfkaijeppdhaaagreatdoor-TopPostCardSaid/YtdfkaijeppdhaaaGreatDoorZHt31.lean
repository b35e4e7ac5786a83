/- Part of the proof. -/
import Derived.Test.YtdfkaijeppdhaaaGreatDoorZHt30
import Derived.Deep.AppendLies
set_option maxRecDepth 100000
set_option maxHeartbeats 8000000
set_option linter.unusedSimpArgs false
set_option linter.unusedVariables false

namespace Go.Proofs.YtdfkaijeppdhaaaGreatDoor.Fd
open Go.RowKit
theorem Cvl.ne{c:List Int}(h:Cvl c):c≠[]:=fun e=>by have:=h.lo;rw[e]at this;simp at this
theorem Cvl.pos{c:List Int}(h:Cvl c):∀x∈c,0<=x:=fun x hx=>(h.holds x hx).1
theorem Cvl.tot{c:List Int}(h:Cvl c):0<=tot c/\tot c<=8000:=by
 have ht:=a5r h c.length (aly _);rw[alV]at ht;have:=h.hi;omega
theorem Cvl.shr{c:List Int}(h:Cvl c){e:Int}(r:Int)(he:0<=e)(hs:e<=Go.Proofs.YtdfkaijeppdhaaaGreatDoor.Fd.tot c):∃f Q,Shr c e (shareL c e r) f Q:=ahY h.ne h.pos h.hi h.tot.2 he hs
theorem adD{c:List Int}{f:Int->Int}{Q B:Int}(hQ:1<=Q)(h:∀x∈c,0<=f x/\f x<=B):∀y∈c.map (fun x=>red (f x) Q),0<=y.1/\y.1<=B/\1<=y.2/\y.2<=Q:=fun y hy=>by
 obtain⟨x,hx,rfl⟩:=amd.1 hy;obtain⟨h1,h2⟩:=h x hx;have a:=a7u (n:=f x) hQ h1;have b:=a9w (n:=f x) (d:=Q) (B:=B) hQ (by omega) h2;omega
theorem a5t{c:List Int}(h:Cvl c){e:Int}(he:0<=e)(hs:e<=tot c):∀y∈eqW c e,0<=y.1/\y.1<=9000/\1<=y.2/\y.2<=9:=by
 obtain⟨p,q,hl,hp,hq,e1⟩:=a5s h.ne h.pos h.hi he hs;rw[e1];intro y hy
 have:=adD (B:=9000) hl.hq (fun x hx=>by
  have c1:=a0i hl.hq hp (h.holds x hx).1 (am4 x)
  have:x * q<=1000 * 9:=an4 (h.holds x hx).2 hq (by have:=hl.hq;omega) (by omega)
  omega) y hy
 omega
theorem aef{l:List anm}(h:∀y∈l,0<=y.1/\y.1<=9000/\1<=y.2/\y.2<=9):∀y∈a0p l,0<=y.1/\y.1<=9000/\1<=y.2/\y.2<=18:=fun y hy=>by
 obtain⟨x,hx,rfl⟩:=amd.1 hy;have:=h x hx;have a:=a7u (n:=x.1) (d:=2 * x.2) (by omega) (by omega);have b:=a9w (n:=x.1) (d:=2 * x.2) (B:=9000) (by omega) (by omega) (by omega);omega
theorem a5u{l:List anm}{A B:Int}(h:∀y∈l,0<=y.1/\y.1<=A/\1<=y.2/\y.2<=B)(hA:A<=1000000000)(hB:B<=1000000):Mod l:=fun y hy=>by
 have:=h y hy;omega
theorem a2W(c:List Int)(e:Int):(eqW c e).length=c.length:=by unfold eqW aoa;rw[alN]
theorem a7d(l:List anm):(a0p l).length=l.length:=by unfold a0p;rw[alN]
theorem GivesR.keep{l:List anm}{w w1:World}{e:Ending}{w':World}(hb:Below w.heap.size w w1)(h:GivesR l w1 e w'):GivesR l w e w':=by
 obtain⟨v,rfl,ho,hb2⟩:=h;exact⟨v,rfl,ho.base hb.size,below_trans hb hb2⟩
theorem afB(v:Value)(c:List Int)(e0:Int)(w:World)(hv:IntsAt w v c)(hc:Cvl c)(he:0<=e0)(hes:e0<=tot c):
  Calls Tryz.prog 302 #[v,.int .i64 e0] w (GivesR (a14 c (eqW c (tot c-e0))) w):=by
 have HV:=Lib.hid hv;have HH:=Lib.hid hc;have ht:=hc.tot;have E1:=Lib.hid (equal_any v c (tot c-e0) w hv hc (by omega) (by omega));have M1:=Lib.hid (a5t hc (e:=tot c-e0) (by omega) (by omega));have L1:=Lib.hid (a2W c (tot c-e0));have hhi:=hc.hi;clear hv hc;have l8:(eqW c (tot c-e0)).length<=9223372036854775807:=by rw[L1.out];omega
 have S:=Lib.hid (a4r v c w HV.out HH.out);generalize hg:eqW c (tot c-e0)=E at *;have HE:=Lib.hid hg;clear hg;generalize tot c=t at *;go_enter Tryz.func302,Tryz.ntmps302;go_wp2_with fail
 refine(S.out).mono ?_
 rintro e w' ⟨rfl,rfl⟩;go_wp2_with fail
 refine E1.out.mono ?_;rintro e w1 ⟨v1,rfl,ho,hb1⟩;go_wp2_with fail
 refine(acy v v1 c E w1 (HV.out.below hb1) (ho.at l8) HH.out L1.out (a5u M1.out (by omega) (by omega))).mono ?_
 rintro e w2 ⟨v2,rfl,ho2,hb2⟩;have O:=Lib.hid (ho2.base hb1.size);have B:=Lib.hid (below_trans hb1 hb2);clear ho ho2 hb1 hb2;go_wp2;go_ret;exact⟨_,rfl,O.out,B.out⟩
def aob(c:List Int)(e:Int):List anm:=if 2 * e>tot c then a14 c (a0p (eqW c (2 * (tot c-e))))else a0p (eqW c (2 * e))
theorem ala(v:Value)(c:List Int)(e0:Int)(w:World)(hv:IntsAt w v c)(hc:Cvl c)(he:0<=e0)(hes:e0<=tot c):
  Calls Tryz.prog 303 #[v,.int .i64 e0] w (GivesR (aob c e0) w):=by
 have HV:=Lib.hid hv;have HH:=Lib.hid hc;have ht:=hc.tot;have hhi:=hc.hi;have S:=Lib.hid (a4r v c w hv hc);by_cases h2:tot c<2 * e0
 ·have OL:Hid (aob c e0=a14 c (a0p (eqW c (2 * (tot c-e0))))):=Lib.hid (by unfold aob;rw[if_pos h2]);have E1:=Lib.hid (equal_any v c (2 * (tot c-e0)) w hv hc (by omega) (by omega));have M1:=Lib.hid (a5t hc (e:=2 * (tot c-e0)) (by omega) (by omega));have L1:=Lib.hid (a2W c (2 * (tot c-e0)));have l8:(eqW c (2 * (tot c-e0))).length<=8:=by rw[L1.out];omega
  rw[OL.out];clear OL hv hc;generalize hg:eqW c (2 * (tot c-e0))=E at *;clear hg;have M2:=Lib.hid (aef M1.out);have L2:Hid ((a0p E).length=c.length):=Lib.hid (by rw[a7d,L1.out]);have l9:(a0p E).length<=9223372036854775807:=by rw[L2.out];omega
  generalize tot c=t at *;go_enter Tryz.func303,Tryz.ntmps303;go_wp2_with fail
  refine(S.out).mono ?_
  rintro e w' ⟨rfl,rfl⟩;go_wp2_with fail
  refine E1.out.mono ?_;rintro e w1 ⟨v1,rfl,ho,hb1⟩;go_wp2_with fail
  refine(acx v1 E w1 (ho.at (by omega)) l8 (a5u M1.out (by omega) (by omega))).mono ?_
  rintro e w2 ⟨v2,rfl,ho2,hb2'⟩;have hb2:=below_trans hb1 hb2';go_wp2_with fail
  refine(acy v v2 c (a0p E) w2 (HV.out.below hb2) (ho2.at l9) HH.out L2.out (a5u M2.out (by omega) (by omega))).mono ?_
  rintro e w3 ⟨v3,rfl,ho3,hb3⟩;have O:=Lib.hid (ho3.base hb2.size);have B:=Lib.hid (below_trans hb2 hb3);clear ho ho2 ho3 hb1 hb2 hb2' hb3;go_wp2;go_ret;exact⟨_,rfl,O.out,B.out⟩
 have OL:Hid (aob c e0=a0p (eqW c (2 * e0))):=Lib.hid (by unfold aob;rw[if_neg h2]);have E1:=Lib.hid (equal_any v c (2 * e0) w hv hc (by omega) (by omega));have M1:=Lib.hid (a5t hc (e:=2 * e0) (by omega) (by omega));have L1:=Lib.hid (a2W c (2 * e0));have l8:(eqW c (2 * e0)).length<=8:=by rw[L1.out];omega
 rw[OL.out];clear OL hv hc;generalize hg:eqW c (2 * e0)=E at *;clear hg;generalize tot c=t at *;go_enter Tryz.func303,Tryz.ntmps303;go_wp2_with fail
 refine(S.out).mono ?_
 rintro e w' ⟨rfl,rfl⟩;go_wp2_with fail
 refine E1.out.mono ?_;rintro e w1 ⟨v1,rfl,ho,hb1⟩;go_wp2_with fail
 refine(acx v1 E w1 (ho.at (by omega)) l8 (a5u M1.out (by omega) (by omega))).mono ?_
 rintro e w2 ⟨v2,rfl,ho2,hb2⟩;have O:=Lib.hid (ho2.base hb1.size);have B:=Lib.hid (below_trans hb1 hb2);clear ho ho2 hb1 hb2;go_wp2;go_ret;exact⟨_,rfl,O.out,B.out⟩
theorem ajI(n:Int)(w:World)(h:betw 1 n 4=false):
  Calls Tryz.prog 296 #[.int .i64 n] w fun e w'=>(∃v,e= .returned (.tuple #[v,.bool false]))/\Below w.heap.size w w':=by
 have H:=Lib.hid h;clear h;go_enter Tryz.func296,Tryz.ntmps296;go_wp2_with fail
 refine(between_any _ _ _ _).mono ?_
 rintro e w' ⟨rfl,rfl⟩;rw[H.out];go_wp2;go_ret2;exact⟨⟨_,rfl⟩,(apC _ _).alloc (aly _) _⟩
theorem alb(w:World):
  Calls Tryz.prog 296 #[.int .i64 1] w fun e w'=>e= .returned (.tuple #[.func (.func 300) #[] #[],.bool true])/\Below w.heap.size w w':=by
 have H:Hid (betw 1 1 4=true):=Lib.hid rfl;go_enter Tryz.func296,Tryz.ntmps296;go_wp2_with fail
 refine(between_any _ _ _ _).mono ?_
 rintro e w' ⟨rfl,rfl⟩;rw[H.out];go_wp2;go_ret2;exact⟨rfl,(apC _ _).alloc (aly _) _⟩
theorem alc(w:World):
  Calls Tryz.prog 296 #[.int .i64 2] w fun e w'=>e= .returned (.tuple #[.func (.func 301) #[] #[],.bool true])/\Below w.heap.size w w':=by
 have H:Hid (betw 1 2 4=true):=Lib.hid rfl;go_enter Tryz.func296,Tryz.ntmps296;go_wp2_with fail
 refine(between_any _ _ _ _).mono ?_
 rintro e w' ⟨rfl,rfl⟩;rw[H.out];go_wp2;go_ret2;exact⟨rfl,(apC _ _).alloc (aly _) _⟩
theorem ald(w:World):
  Calls Tryz.prog 296 #[.int .i64 3] w fun e w'=>e= .returned (.tuple #[.func (.func 302) #[] #[],.bool true])/\Below w.heap.size w w':=by
 have H:Hid (betw 1 3 4=true):=Lib.hid rfl;go_enter Tryz.func296,Tryz.ntmps296;go_wp2_with fail
 refine(between_any _ _ _ _).mono ?_
 rintro e w' ⟨rfl,rfl⟩;rw[H.out];go_wp2;go_ret2;exact⟨rfl,(apC _ _).alloc (aly _) _⟩
theorem ale(w:World):
  Calls Tryz.prog 296 #[.int .i64 4] w fun e w'=>e= .returned (.tuple #[.func (.func 303) #[] #[],.bool true])/\Below w.heap.size w w':=by
 have H:Hid (betw 1 4 4=true):=Lib.hid rfl;go_enter Tryz.func296,Tryz.ntmps296;go_wp2_with fail
 refine(between_any _ _ _ _).mono ?_
 rintro e w' ⟨rfl,rfl⟩;rw[H.out];go_wp2;go_ret2;exact⟨rfl,(apC _ _).alloc (aly _) _⟩
def shareE(c:List Int)(n r:Int):Int:=if ao2 c n=0 then (if betw 1 r 4 then 0 else 2)else ao2 c n
def a0J(c:List Int)(n r:Int):List anm:=if shareE c n r=0 then shareL c n r else []
def a9x(c:List Int)(n r:Int)(w:World)(e:Ending)(w':World):Prop:=
 ∃v,e= .returned (.tuple #[v,.int .i64 (shareE c n r)])/\OwnR w' w.heap.size v (a0J c n r)/\Below w.heap.size w w'
theorem a4C{c:List Int}{n:Int}(h:ao2 c n=0):Cvl c/\0<=n/\n<=tot c:=by
 unfold ao2 at h;split at h
 ·rename_i h1
  split at h
  ·rename_i h2
   have hb:=(betw_iff _ _ _).1 h2
   exact⟨(aa1 c).1 h1,by omega,by omega⟩
  omega
 omega
theorem a4Y{c:List Int}{n r:Int}(h:shareE c n r=0):ao2 c n=0/\1<=r/\r<=4:=by
 unfold shareE at h;split at h
 ·split at h
  ·rename_i h1 h2
   have hb:=(betw_iff _ _ _).1 h2
   exact⟨h1,by omega,by omega⟩
  omega
 rename_i h1
 exact absurd h h1
theorem afC(v:Value)(c:List Int)(n r:Int)(w:World)(hv:IntsAt w v c):
  Calls Tryz.prog 290 #[v,.int .i64 n,.int .i64 r] w (a9x c n r w):=by
 have HV:=Lib.hid hv;clear hv;by_cases h0:ao2 c n=0
 ·obtain⟨hc,h1,h2⟩:=a4C h0;have A:=Lib.hid h0;have HH:=Lib.hid hc;have h3:=hc.tot;clear h0 hc;cases hr:betw 1 r 4 with
  |false=>
   have R:=Lib.hid hr;have E0:Hid (shareE c n r=2):=Lib.hid (by unfold shareE;rw[if_pos A.out,hr];rfl);have V0:Hid (a0J c n r=[]):=Lib.hid (by unfold a0J;rw[E0.out];rfl);clear hr;go_enter Tryz.func290,Tryz.ntmps290;go_wp2_with fail
   refine(a2s _ _ _ _ HV.out).mono ?_
   rintro e w' ⟨rfl,rfl⟩;rw[A.out];go_wp2_with fail
   refine(ajI _ _ R.out).mono ?_
   rintro e w1 ⟨⟨v1,rfl⟩,hb1⟩;go_wp2;go_ret2;exact⟨.slice none 0 0,by rw[E0.out];rfl,by rw[V0.out];exact OwnR.nil _ _,hb1⟩
  | true=>
   have hb:=(betw_iff _ _ _).1 hr
   have h4:r=1\/r=2\/r=3\/r=4:=by omega
   clear hr hb;rcases h4 with rfl|rfl|rfl|rfl
   ·have h5:n<=8000:=by omega
    have PC:=fun w1 (q:IntsAt w1 v c)=>aa5 v c n w1 q HH.out h1 h5;have E0:Hid (shareE c n 1=0):=Lib.hid (by unfold shareE;rw[if_pos A.out];rfl);have V0:Hid (a0J c n 1=a1l c n):=Lib.hid (by unfold a0J;rw[if_pos E0.out];rfl);have PH:=Lib.hid PC;clear PC;go_enter Tryz.func290,Tryz.ntmps290;go_wp2_with fail
    refine(a2s _ _ _ _ HV.out).mono ?_
    rintro e w' ⟨rfl,rfl⟩;rw[A.out];go_wp2_with fail
    refine(alb _).mono ?_
    rintro e w1 ⟨rfl,hb1⟩;go_wp2_with fail
    refine(PH.out w1 (HV.out.below hb1)).mono ?_
    rintro e w2 ⟨v2,rfl,ho2,hb2⟩;have O:=Lib.hid (ho2.base hb1.size);have B:=Lib.hid (below_trans hb1 hb2);clear ho2 hb1 hb2;go_wp2;go_ret2;exact⟨_,by rw[E0.out];rfl,by rw[V0.out];exact O.out,B.out⟩
   ·have E0:Hid (shareE c n 2=0):=Lib.hid (by unfold shareE;rw[if_pos A.out];rfl);have V0:Hid (a0J c n 2=eqW c n):=Lib.hid (by unfold a0J;rw[if_pos E0.out];rfl);go_enter Tryz.func290,Tryz.ntmps290;go_wp2_with fail
    refine(a2s _ _ _ _ HV.out).mono ?_
    rintro e w' ⟨rfl,rfl⟩;rw[A.out];go_wp2_with fail
    refine(alc _).mono ?_
    rintro e w1 ⟨rfl,hb1⟩;go_wp2_with fail
    refine(equal_any v c n w1 (HV.out.below hb1) HH.out h1 h2).mono ?_
    rintro e w2 ⟨v2,rfl,ho2,hb2⟩;have O:=Lib.hid (ho2.base hb1.size);have B:=Lib.hid (below_trans hb1 hb2);clear ho2 hb1 hb2;go_wp2;go_ret2;exact⟨_,by rw[E0.out];rfl,by rw[V0.out];exact O.out,B.out⟩
   ·have E0:Hid (shareE c n 3=0):=Lib.hid (by unfold shareE;rw[if_pos A.out];rfl);have V0:Hid (a0J c n 3=a14 c (eqW c (tot c-n))):=Lib.hid (by unfold a0J;rw[if_pos E0.out];rfl);go_enter Tryz.func290,Tryz.ntmps290;go_wp2_with fail
    refine(a2s _ _ _ _ HV.out).mono ?_
    rintro e w' ⟨rfl,rfl⟩;rw[A.out];go_wp2_with fail
    refine(ald _).mono ?_
    rintro e w1 ⟨rfl,hb1⟩;go_wp2_with fail
    refine(afB v c n w1 (HV.out.below hb1) HH.out h1 h2).mono ?_
    rintro e w2 ⟨v2,rfl,ho2,hb2⟩;have O:=Lib.hid (ho2.base hb1.size);have B:=Lib.hid (below_trans hb1 hb2);clear ho2 hb1 hb2;go_wp2;go_ret2;exact⟨_,by rw[E0.out];rfl,by rw[V0.out];exact O.out,B.out⟩
   have E0:Hid (shareE c n 4=0):=Lib.hid (by unfold shareE;rw[if_pos A.out];rfl);have V0:Hid (a0J c n 4=aob c n):=Lib.hid (by unfold a0J;rw[if_pos E0.out];rfl);go_enter Tryz.func290,Tryz.ntmps290;go_wp2_with fail
   refine(a2s _ _ _ _ HV.out).mono ?_
   rintro e w' ⟨rfl,rfl⟩;rw[A.out];go_wp2_with fail
   refine(ale _).mono ?_
   rintro e w1 ⟨rfl,hb1⟩;go_wp2_with fail
   refine(ala v c n w1 (HV.out.below hb1) HH.out h1 h2).mono ?_
   rintro e w2 ⟨v2,rfl,ho2,hb2⟩;have O:=Lib.hid (ho2.base hb1.size);have B:=Lib.hid (below_trans hb1 hb2);clear ho2 hb1 hb2;go_wp2;go_ret2;exact⟨_,by rw[E0.out];rfl,by rw[V0.out];exact O.out,B.out⟩
 have E0:Hid (shareE c n r=ao2 c n):=Lib.hid (by unfold shareE;rw[if_neg h0]);have V0:Hid (a0J c n r=[]):=Lib.hid (by unfold a0J;rw[E0.out,if_neg h0]);have hb:(ao2 c n != 0)=true:=by rw[bne_iff_ne];exact h0
 clear h0;go_enter Tryz.func290,Tryz.ntmps290;go_wp2_with fail
 refine(a2s _ _ _ _ HV.out).mono ?_
 rintro e w' ⟨rfl,rfl⟩;go_wp2;go_ret2;exact⟨.slice none 0 0,by rw[E0.out];rfl,by rw[V0.out];exact OwnR.nil _ _,apC _ _⟩
end Go.Proofs.YtdfkaijeppdhaaaGreatDoor.Fd
namespace Go.Proofs.YtdfkaijeppdhaaaGreatDoor.Fd
open Go.RowKit
theorem OwnR.drew{w:World}{B:Nat}{v:Value}{l:List anm}(h:OwnR w B v l):OwnR w.drew B v l:=own_below h ((apC _ w).drew)
theorem aaP(v x:Value)(c:List Int)(l:List anm)(w:World)(hv:IntsAt w v c)(hx:RatsAt w x l)(hc:Cvl c)(hl:l.length=c.length)(hm:Mod l):
  Calls Tryz.prog 219 #[v,x] w (GivesR (a14 c l) w):=by
 obtain⟨i0,hi0,hz0,hz1,hz2⟩:=info_parts Tryz.infoRatio;have hhi:=hc.hi;have hlo:=hc.lo;have lc:c.length<=l.length:=by omega
 obtain⟨b,off,cap,rfl,hcc⟩:=ints_cell hv (by omega);obtain⟨b2,off2,cap2,hcap,rfl,hcl⟩:=aaJ hx (by omega);have HC:=Lib.hid hcc;have HR:=Lib.hid hcl;have HM:=Lib.hid hm;have HH:=Lib.hid hc;have HL:=Lib.hid (a7c c l hl);clear hm hv hx hc hl hcc hcl;go_enter Tryz.func219,Tryz.ntmps219;go_wp2;go_loopw [5,6] (fun o i wr=>∃k:Nat,k<=c.length/\i= .int .i64 k/\OwnR wr w.heap.size o ((a14 c l).take k)/\Below w.heap.size w wr) (fun _ i _=>c.length-(intOf i).toNat)
 case atStart=>exact⟨0,alE _,rfl,OwnR.nil _ _,apC _ _⟩
 case round=>
  obtain⟨k,hk,rfl,hown,hbel⟩:=hrel;have hTk:((a14 c l).take k).length<=8:=by have:=HL.out;simp;omega
  by_cases hlt:k<c.length
  ·have hkl:k<l.length:=by omega
   obtain⟨x0,d0⟩:=HR.out k hkl;have c0:=HC.out k hlt;have x1:=keep_cell hbel x0;have d1:=keep_cell hbel d0;have c1:=keep_cell hbel c0;have hx:=HM.out _ (a1Y hkl);have hcb:=HH.out.holds _ (a16 hlt);have T:=Lib.hid (aaO hlt hkl);have hi0':(0:Int)<=(k:Int):=Int.natCast_nonneg _;have hi1:(k:Int)<(c.length:Int):=by omega
   have hi2:(k:Int)<(l.length:Int):=by omega
   generalize l.getD k (0,0)=xd at *;obtain⟨n,d⟩:=xd;simp only at x1 d1 hx T x0 d0;generalize c.getD k 0=cl at *;have m1:0<=cl * d/\cl * d<=1000 * 1000000:=⟨amw (by omega) (by omega),an4 (by omega) (by omega) (by omega) (by omega)⟩
   have RQ:=Lib.hid (fun W=>a3u (cl * d-n) d W (by omega) (by omega) (by omega) (by omega));have hbl:b<w.heap.size:=World.block_lt_of_cell? _ _ c0;have hbl2:b2<w.heap.size:=World.block_lt_of_cell? _ _ x0;have C0:=Lib.hid c0;have X0:=Lib.hid x0;have D0:=Lib.hid d0;have HO:=Lib.hid hown;have HB:=Lib.hid hbel;have hsz:=hbel.size;have e1:IntKind.i64.wrap (cl * d)=cl * d:=IntWalk.i64_in _ (by omega);have e2:IntKind.i64.wrap (cl * d-n)=cl * d-n:=IntWalk.i64_in _ (by omega);clear c0 x0 d0 hown hbel;go_wp2_with fail
   go_region_held3 (fun w'=>w'.cell? ⟨b,off+k,none⟩=some (.int .i64 cl)/\w'.cell? ⟨b2,off2+k * 2,none⟩=some (.int .i64 n)/\w'.cell? ⟨b2,off2+k * 2+1,none⟩=some (.int .i64 d))
    (first
     |(exact⟨keep_cell hB3 C0.out,keep_cell hB3 X0.out,keep_cell hB3 D0.out⟩)
     |(exact⟨keep_cell (hbW.alloc hbW.size _) C0.out,keep_cell (hbW.alloc hbW.size _) X0.out,keep_cell (hbW.alloc hbW.size _) D0.out⟩)
     |(exact⟨keep_cell hbW C0.out,keep_cell hbW X0.out,keep_cell hbW D0.out⟩)
     |go_keep)
    (first
     |(go_at_call 221;refine(RQ.out _).mono ?_;rintro e w2 ⟨rfl,hb2⟩;have hbW:=below_trans HB.out.drew hb2;have hownW:=HO.out.drew.below hb2;unfold anE)
     |(refine step_append_lies _ (by rfl) _ _ _ (by rfl) w.heap.size 199 i0 _ 2 16 Tryz.underlying195 hi0 hz0 hz1 hz2 rfl (by omega) _ _ _ (by rfl) (hownW.row.alloc _) ⟨w2.heap.size,0,none⟩ 1 1 [.int .i64 (rn (cl * d-n) d),.int .i64 (rd (cl * d-n) d)] (by rfl) (by rfl) (World.news_of_block (cs:=#[.int .i64 (rn (cl * d-n) d),.int .i64 (rd (cl * d-n) d)]) (t:=199) (fr:=(0,0)) (heap_alloc_new w2 _)) (by simp[Value.oneCell']) (by omega) (by unfold maxLen;omega) (by omega) (by have:=hbW.size;simp;omega) (w2.heap.size+1) (by simp) ?_;intro gg cp w3 hown' hgrow hat hlt3;have hB3:=below_append hbW hbW.size hownW.row hgrow))
   have O3:Hid (OwnR w3 w.heap.size _ ((a14 c l).take (k+1))):=Lib.hid (by rw[T.out];exact OwnR.snoc (by first|rfl|simp) hown');have B3:=Lib.hid hB3;clear hown' hgrow hownW hbW hB3 e1 e2 hb2 x1 d1 c1;go_wp2;go_roundw
   case rel=>exact⟨k+1,by omega,by go_num,(by have:=O3.out;rwa[alL]at this),B3.out⟩
   case measure=>simp[intOf];omega
  have e:k=c.length:=by omega
  subst e;have O:Hid (OwnR wr w.heap.size u5 (a14 c l)):=Lib.hid (by rwa[alG (by rw[HL.out];exact aly _)]at hown);have B:=Lib.hid hbel;clear hown hbel;go_wp2;go_ret;exact⟨_,rfl,O.out,B.out⟩
end Go.Proofs.YtdfkaijeppdhaaaGreatDoor.Fd
namespace Go.Proofs.YtdfkaijeppdhaaaGreatDoor.Fd
open Go.RowKit
theorem aaQ:∀(l:List anm) (k:Nat) (x:anm),k<l.length->a0S (l.set k x)=((a0S l).set (k * 2) (.int .i64 x.1)).set (k * 2+1) (.int .i64 x.2)
 |d::l,0,x,_=>by simp[a0S,aoe]
 |d::l,k+1,x,h=>by
  have ih:=aaQ l k x (by simpa using h);rw[show (k+1) * 2=k * 2+2 by omega,show k * 2+2+1=(k * 2+1)+2 by omega];simp only[a0S,List.flatMap_cons,alZ,aoe]at ih⊢;simp only[alM,alY,alZ];rw[ih]
theorem OwnR.set{w:World}{B g cap:Nat}{l:List anm}{n:Nat}(h:OwnR w B (.slice (some ⟨g,0,none⟩) n cap) l)(hn:n=l.length){k:Nat}(hk:k<l.length)(x:anm):
  OwnR ((w.setCell ⟨g,k * 2,none⟩ (.int .i64 x.1)).setCell ⟨g,k * 2+1,none⟩ (.int .i64 x.2)) B (.slice (some ⟨g,0,none⟩) n cap) (l.set k x):=by
 subst hn;unfold OwnR at h⊢;have h1:=(World.ownsRow.stored h (k * 2) (.int .i64 x.1)).1
 have h2:=(World.ownsRow.stored h1 (k * 2+1) (.int .i64 x.2)).1
 rw[amk,aaQ l k x hk];exact h2
theorem OwnR.split{w:World}{B:Nat}{v:Value}{l:List anm}(h:OwnR w B v l)(h0:0<l.length):∃g cap,v= .slice (some ⟨g,0,none⟩) l.length cap/\B<=g/\g<w.heap.size:=by
 rcases h.2 with⟨rfl,hn⟩|⟨g,cap,cur,rfl,hg,hh,_⟩
 ·omega
 exact⟨g,cap,rfl,hg,(alx.1 hh).1⟩
theorem OwnR.cells{w:World}{B g cap n:Nat}{l:List anm}(h:OwnR w B (.slice (some ⟨g,0,none⟩) n cap) l)(hn:n=l.length){k:Nat}(hk:k<l.length):
  w.cell? ⟨g,k * 2,none⟩=some (.int .i64 (l.getD k (0,0)).1)/\w.cell? ⟨g,k * 2+1,none⟩=some (.int .i64 (l.getD k (0,0)).2)/\w.frozen? ⟨g,k * 2,none⟩=false/\w.frozen? ⟨g,k * 2+1,none⟩=false:=by
 subst hn;obtain⟨e1,e2⟩:=a3b l k hk;exact⟨(World.ownsRow.cellAt h _ (by omega)).trans e1,(World.ownsRow.cellAt h _ (by omega)).trans e2,World.ownsRow.frozenAt h _,World.ownsRow.frozenAt h _⟩
def a2c(l:List anm)(k:Nat):List anm:=(a0p l).take k++l.drop k
theorem abl(l:List anm)(k:Nat)(hk:k<=l.length):(a2c l k).length=l.length:=by
 unfold a2c;simp[a0p];omega
theorem ai4{l:List anm}{k:Nat}(hk:k<l.length):(a2c l k).getD k (0,0)=l.getD k (0,0):=by
 unfold a2c;have:((a0p l).take k).length=k:=by simp[a0p];omega
 simp only[abs];rw[am9 (by omega),this,List.getElem?_drop];simp
theorem afD{l:List anm}{k:Nat}(hk:k<l.length):(a2c l k).set k (red (l.getD k (0,0)).1 (2 * (l.getD k (0,0)).2))=a2c l (k+1):=by
 unfold a2c;have:((a0p l).take k).length=k:=by simp[a0p];omega
 have e:l.drop k=l[k]::l.drop (k+1):=am3 hk;rw[List.set_append_right _ _ (by omega),this,ani,aaN hk,e];simp only[am5,am6,ana]
theorem afE(l:List anm):a2c l l.length=a0p l:=by
 unfold a2c;rw[List.drop_length,amv,alG (by simp[a0p])]
theorem a7O(EQ:∀(v:Value) (c:List Int) (e0:Int) (w:World),IntsAt w v c->Cvl c->0<=e0->e0<=tot c->Calls Tryz.prog 218 #[v,.int .i64 e0] w (GivesR (eqW c e0) w))
  (v:Value)(c:List Int)(e0:Int)(w:World)(hv:IntsAt w v c)(hc:Cvl c)(he:0<=e0)(hes:2 * e0<=tot c):
  Calls Tryz.prog 220 #[v,.int .i64 e0] w (GivesR (a0p (eqW c (2 * e0))) w):=by
 have E1:=Lib.hid (EQ v c (2 * e0) w hv hc (by omega) hes);have M1:=Lib.hid (a5t hc (e:=2 * e0) (by omega) hes);have hll:=a2W c (2 * e0);have hhi:=hc.hi;have hlo:=hc.lo;have ht:=hc.tot;have e8:e0<=8000:=by omega
 clear hv hc EQ hes ht;generalize eqW c (2 * e0)=l at *;have l0:0<l.length:=by omega
 have l8:l.length<=8:=by omega
 clear hll hhi hlo;go_enter Tryz.func220,Tryz.ntmps220;go_wp2_with fail
 refine E1.out.mono ?_;rintro e w1 ⟨v1,rfl,ho,hb1⟩;obtain⟨g,cap,rfl,hg,hgl⟩:=ho.split l0;have HO:=Lib.hid ho;have HB:=Lib.hid hb1;clear ho hb1 E1;go_wp2;go_loopw [6] (fun i wr=>∃k:Nat,k<=l.length/\i= .int .i64 k/\OwnR wr w.heap.size (.slice (some ⟨g,0,none⟩) l.length cap) (a2c l k)/\Below w.heap.size w wr/\g<wr.heap.size) (fun i _=>l.length-(intOf i).toNat)
 case atStart=>exact⟨0,alE _,rfl,by have:=HO.out;unfold a2c;simpa using this,HB.out,hgl⟩
 case round=>
  obtain⟨k,hk,rfl,hown,hbel,hgr⟩:=hrel;by_cases hlt:k<l.length
  ·have hn:=(abl l k hk).symm
   obtain⟨x1,d1,f1,f2⟩:=hown.cells (k:=k) hn (by omega);rw[ai4 hlt]at x1 d1;have hx:=M1.out _ (a1Y hlt);have T:=Lib.hid (afD hlt);have hi0':(0:Int)<=(k:Int):=Int.natCast_nonneg _;have hi2:(k:Int)<(l.length:Int):=by omega
   have HN:=Lib.hid hn;clear hn;generalize l.getD k (0,0)=xd at *;obtain⟨n,d⟩:=xd;simp only at x1 d1 hx T;have RQ:=Lib.hid (fun W=>a3u n (2 * d) W (by omega) (by omega) (by omega) (by omega));have HO2:=Lib.hid hown;have HB2:=Lib.hid hbel;have e1:IntKind.i64.wrap (2 * d)=2 * d:=IntWalk.i64_in _ (by omega);clear hown hbel;go_wp2_with fail
   go_region_with ((go_at_call 221;refine(RQ.out _).mono ?_;rintro e w2 ⟨rfl,hb2⟩;have hownW:=HO2.out.drew.below hb2;obtain⟨x2,d2,g1,g2⟩:=hownW.cells (k:=k) HN.out (by have:=HN.out;omega);have hbW:=below_trans HB2.out.drew hb2;unfold anE))
   all_goals
    have O3:=Lib.hid (hownW.set HN.out (k:=k) (by have:=HN.out;omega) (rn n (2 * d),rd n (2 * d)));have hgw:g<w2.heap.size:=by have:=hb2.size;rw[show wr.drew.heap.size=wr.heap.size from rfl]at this;omega
    have B3:=Lib.hid ((hbW.setCell (p:=⟨g,k * 2,none⟩) hg (.int .i64 (rn n (2 * d)))).setCell (p:=⟨g,k * 2+1,none⟩) hg (.int .i64 (rd n (2 * d))));have T2:Hid ((a2c l k).set k (rn n (2 * d),rd n (2 * d))=a2c l (k+1)):=T;clear hownW hbW hb2 x1 d1 f1 f2 x2 d2 g1 g2 e1;go_wp2;go_roundw
    case rel=>exact⟨k+1,by omega,by go_num,(by rw[<-T2.out];exact O3.out),B3.out,by simpa using hgw⟩
    case measure=>simp[intOf];omega
  have e:k=l.length:=by omega
  subst e;have O:Hid (OwnR wr w.heap.size (.slice (some ⟨g,0,none⟩) l.length cap) (a0p l)):=Lib.hid (by rwa[afE]at hown);have B:=Lib.hid hbel;clear hown hbel;go_wp2;go_ret;exact⟨_,rfl,O.out,B.out⟩
end Go.Proofs.YtdfkaijeppdhaaaGreatDoor.Fd
namespace Go.Proofs.YtdfkaijeppdhaaaGreatDoor.Fd
def anX:List anm->Int
 |[]=>0
 |x::l=>(if x.2=0 then 1 else 0)+anX l
def ao3:List anm->Int
 |[]=>0
 |x::l=>x.1+ao3 l
theorem a2Z:∀o,0<=anX o
 |[]=>by simp[anX]
 |x::l=>by have:=a2Z l;unfold anX;split<;>omega
theorem a68:∀(o:List anm) (k:Nat),k<o.length->(o.getD k (0,0)).2=0->1<=anX o
 |x::l,0,_,h=>by
  have:=a2Z l;rw[am7]at h;unfold anX;rw[if_pos h];omega
 |x::l,k+1,hk,h=>by
  have:=a68 l k (by simpa using hk) (by simpa using h);unfold anX;split<;>omega
theorem acz:∀(o:List anm) (k:Nat) (y:anm),k<o.length->ao3 (o.set k y)=ao3 o-(o.getD k (0,0)).1+y.1
 |x::l,0,y,_=>by simp[ao3];omega
 |x::l,k+1,y,h=>by
  have:=acz l k y (by simpa using h);simp only[alZ,ao3,ank];omega
theorem acA:∀(o:List anm) (k:Nat) (y:anm),k<o.length->(o.getD k (0,0)).2=0->y.2≠0->anX (o.set k y)=anX o-1
 |x::l,0,y,_,h,hy=>by
  rw[am7]at h;simp[anX,h,hy];omega
 |x::l,k+1,y,h,h0,hy=>by
  have:=acA l k y (by simpa using h) (by simpa using h0) hy;simp only[alZ,anX];omega
theorem aaR:∀n,ao3 (List.replicate n ((0,0):anm))=0
 |0=>rfl
 |n+1=>by simp only[List.replicate_succ,ao3];rw[aaR n];rfl
theorem aaS:∀n:Nat,anX (List.replicate n ((0,0):anm))=n
 |0=>rfl
 |n+1=>by simp only[List.replicate_succ,anX];rw[aaS n];simp;omega
theorem abm{o:List anm}{k:Nat}(y:anm)(hk:k<o.length):(o.set k y).getD k (0,0)=y:=by
 simp[abs,hk]
theorem a5v{o:List anm}{k j:Nat}(y:anm)(h:k≠j):(o.set k y).getD j (0,0)=o.getD j (0,0):=by
 simp[abs,List.getElem?_set_ne h]
structure RS(c:List Int)(e:Int)(o:List anm)(rest left:Int):Prop where
 len:o.length=c.length
 each:∀k,k<c.length->o.getD k (0,0)=(0,0)\/o.getD k (0,0)=(c.getD k 0,1)
 rs:rest=e-ao3 o
 lf:left=anX o
 le:∀k,k<c.length->(o.getD k (0,0)).2≠0->c.getD k 0 * left<=rest
 r0:0<=rest
theorem RS.start(c:List Int){e:Int}(he:0<=e):RS c e (List.replicate c.length (0,0)) e c.length where
 len:=by simp
 each:=fun k hk=>.inl (by simp[abs,hk])
 rs:=by rw[aaR];omega
 lf:=(aaS _).symm
 le:=fun k hk h=>absurd (by simp[abs,hk]) h
 r0:=he
theorem ai5{x y p q:Int}(hq:1<=q)(h1:x * q<=p)(h2:y * q<=p):x * (q-1)<=p-y:=by
 refine Int.le_of_mul_le_mul_right (a:=q) ?_ (by omega);have e1:x * (q-1) * q=x * q * (q-1):=an9 _ _ _;have e2:(p-y) * q=p * (q-1)+(p-y * q):=by rw[an6,Int.mul_sub];omega
 have e3:x * q * (q-1)<=p * (q-1):=alD h1 (by omega);omega
theorem RS.pay{c:List Int}{e:Int}{o:List anm}{rest left:Int}(h:RS c e o rest left)(hc:∀x∈c,0<=x){k:Nat}(hk:k<c.length)(h0:(o.getD k (0,0)).2=0)(hle:c.getD k 0 * left<=rest):
  RS c e (o.set k (c.getD k 0,1)) (rest-c.getD k 0) (left-1)/\1<=left:=by
 have hko:k<o.length:=by have:=h.len;omega
 have hl:=a68 o k hko h0;rw[<-h.lf]at hl;have hx:0<=c.getD k 0:=hc _ (by rw[abs,alz hk];simp)
 have hz:o.getD k (0,0)=(0,0):=by
  rcases h.each k hk with h1|h1
  ·exact h1
  rw[h1]at h0;exact absurd h0 (by simp)
 refine⟨⟨by rw[amk];exact h.len,fun j hj=>?_,?_,?_,fun j hj hp=>?_,?_⟩,hl⟩
 ·by_cases hjk:k=j
  ·subst hjk;exact .inr (abm _ hko)
  rw[a5v _ hjk];exact h.each j hj
 ·rw[acz o k _ hko,hz,h.rs];simp only;omega
 ·rw[acA o k _ hko h0 (by simp),h.lf]
 ·by_cases hjk:k=j
  ·subst hjk;exact ai5 hl hle hle
  rw[a5v _ hjk]at hp;exact ai5 hl (h.le j hj hp) hle
 have:c.getD k 0 * 1<=c.getD k 0 * left:=ams hl hx;omega
def a35(p q:Int)(x:anm):anm:=if x.2=0 then red p q else x
theorem aeg(p q:Int):∀(c:List Int) (o:List anm),o.length=c.length->
  (∀k,k<c.length->o.getD k (0,0)=(0,0)/\p<=c.getD k 0 * q\/o.getD k (0,0)=(c.getD k 0,1)/\c.getD k 0 * q<=p)->anw (cap p q) c=ao3 o * q+anX o * p
 |[],[],_,_=>by simp[anw,ao3,anX]
 |x::c,y::o,hl,h=>by
  have ih:=aeg p q c o (by simpa using hl) (fun k hk=>by have:=h (k+1) (by simpa using hk);simpa using this);have h0:=h 0 (by simp);simp only[am7]at h0;simp only[anw,ao3,anX];rw[ih];rcases h0 with⟨rfl,h1⟩|⟨rfl,h1⟩
  ·simp only[cap,if_true];rw[an3 h1,an5,an5];omega
  simp only[cap];rw[anb h1,an5,an5,if_neg (by omega)];omega
theorem aaT:∀(c:List Int) (o:List anm),o.length=c.length->(∀k,k<c.length->o.getD k (0,0)=(c.getD k 0,1))->o=c.map (fun x=>(x,1))/\ao3 o=anw id c
 |[],[],_,_=>by simp[anw,ao3]
 |x::c,y::o,hl,h=>by
  obtain⟨ih1,ih2⟩:=aaT c o (by simpa using hl) (fun k hk=>by have:=h (k+1) (by simpa using hk);simpa using this);have h0:=h 0 (by simp);simp only[am7]at h0;subst h0;simp only[anw,ao3,alW,id];rw[ih2];exact⟨by rw[<-ih1],rfl⟩
theorem aeh(p q:Int)(hq:1<=q):∀(c:List Int) (o:List anm),o.length=c.length->
  (∀k,k<c.length->o.getD k (0,0)=(0,0)/\p<=c.getD k 0 * q\/o.getD k (0,0)=(c.getD k 0,1)/\c.getD k 0 * q<=p)->o.map (a35 p q)=aoa c p q
 |[],[],_,_=>by simp[aoa]
 |x::c,y::o,hl,h=>by
  have ih:=aeh p q hq c o (by simpa using hl) (fun k hk=>by have:=h (k+1) (by simpa using hk);simpa using this);have h0:=h 0 (by simp);simp only[am7]at h0;simp only[aoa,alW]at ih⊢;rw[ih];congr 1;rcases h0 with⟨rfl,h1⟩|⟨rfl,h1⟩
  ·simp only[a35,cap,if_true];rw[an3 h1]
  simp only[a35,cap];rw[anb h1,aaL x q hq,if_neg (by omega)]
theorem RS.fin{c:List Int}{e:Int}{o:List anm}{rest left:Int}(h:RS c e o rest left)(h0:c≠[])(hc:∀x∈c,0<=x/\x<=1000)(hs:e<=tot c)
  (hn:∀k,k<c.length->(o.getD k (0,0)).2=0->rest<c.getD k 0 * left):o.map (a35 rest left)=eqW c e:=by
 have hl0:=a2Z o;rw[<-h.lf]at hl0;by_cases hl:1<=left
 ·have key:∀k,k<c.length->o.getD k (0,0)=(0,0)/\rest<=c.getD k 0 * left\/o.getD k (0,0)=(c.getD k 0,1)/\c.getD k 0 * left<=rest:=fun k hk=>by
   rcases h.each k hk with h1|h1
   ·have:=hn k hk (by rw[h1]);exact .inl ⟨h1,by omega⟩
   exact .inr ⟨h1,h.le k hk (by rw[h1];simp)⟩
  rw[aeh rest left hl c o h.len key];refine ahX h0 hs ⟨hl,?_⟩;rw[aeg rest left c o h.len key,<-h.lf];have:ao3 o=e-rest:=by have:=h.rs;omega
  rw[this,an6,amG rest left];omega
 have hl1:left=0:=by omega
 have key:∀k,k<c.length->o.getD k (0,0)=(c.getD k 0,1):=fun k hk=>by
  rcases h.each k hk with h1|h1
  ·have:=a68 o k (by have:=h.len;omega) (by rw[h1]);have:=h.lf;omega
  exact h1
 obtain⟨e1,e2⟩:=aaT c o h.len key;rw[<-a4A]at e2;have he:e=tot c:=by have:=h.rs;have:=h.r0;omega
 have hcap:∀x∈c,cap 1000 1 x=x:=fun x hx=>by unfold cap;have:=(hc x hx).2;omega
 rw[<-ahX h0 hs (p:=1000) (q:=1) ⟨by omega,by rw[a63 (g:=id) (fun x hx=>hcap x hx),<-a4A];omega⟩,e1];unfold aoa;rw[amH];refine amZ fun x hx=>?_;simp only[Function.comp,a35];rw[if_neg (by omega),hcap x hx,aa2]
end Go.Proofs.YtdfkaijeppdhaaaGreatDoor.Fd
