/- Part of the proof. -/
import Derived.Test.YtdfkaijeppdhaaaGreatDoorZHs31
set_option maxRecDepth 100000
set_option maxHeartbeats 8000000
set_option linter.unusedSimpArgs false
set_option linter.unusedVariables false

namespace Go.Proofs.YtdfkaijeppdhaaaGreatDoor.Fd
open Lib (hid)
open Proofs.Tryz Go.RowKit
theorem ajY(n:Nat):(madeCells (Value.agg #[.int .i64 0,.int .i64 0]).cells (n * 2)).toList=a17 (List.replicate n (0,0)):=by
 apply List.ext_getElem?;intro j;by_cases hj:j<n * 2
 ·have hd:j / 2<n:=om;have h:=a47 (List.replicate n ((0,0):a04)) (j / 2) (by simpa using hd);have e0:(List.replicate n ((0,0):a04)).getD (j / 2) (0,0)=(0,0):=by simp[aoh,hd]
  rw[e0]at h
  have hm:(madeCells (Value.agg #[.int .i64 0,.int .i64 0]).cells (n * 2)).toList[j]? =some (.int .i64 0):=by
   rcases Nat.mod_two_eq_zero_or_one j with h2|h2<;>simp[madeCells,hj,Value.cells,h2]
  rw[hm];rcases Nat.mod_two_eq_zero_or_one j with h2|h2
  ·rw[show j=j / 2 * 2 by omega,h.1]
  rw[show j=j / 2 * 2+1 by omega,h.2]
 have h1:(madeCells (Value.agg #[.int .i64 0,.int .i64 0]).cells (n * 2)).toList.length=n * 2:=by simp[madeCells]
 have h2:(a17 (List.replicate n ((0,0):a04))).length=n * 2:=by simp[a17,a6u,List.length_flatMap]
 rw[apa om,apa om]
def a1y(p q:Int)(o:List a04)(k:Nat):List a04:=(o.take k).map (a3W p q)++o.drop k
theorem a7H(p q:Int)(o:List a04)(k:Nat)(hk:k<=o.length):(a1y p q o k).length=o.length:=by
 unfold a1y;simp;omega
theorem acF{p q:Int}{o:List a04}{k:Nat}(hk:k<o.length):(a1y p q o k).getD k (0,0)=o.getD k (0,0):=by
 unfold a1y;have:((o.take k).map (a3W p q)).length=k:=by simp;omega
 simp only[aoh];rw[aoX om,this,List.getElem?_drop];simp
theorem ab9{p q:Int}{o:List a04}{k:Nat}(hk:k<o.length):(a1y p q o k).set k (a3W p q (o.getD k (0,0)))=a1y p q o (k+1):=by
 unfold a1y;have:((o.take k).map (a3W p q)).length=k:=by simp;omega
 have e:o.drop k=o[k]::o.drop (k+1):=aoL hk
 have e2:o.take (k+1)=o.take k++[o.getD k (0,0)]:=by
  rw[aon hk,aoh,aoj hk];rfl
 rw[List.set_append_right _ _ om,this,aq8,e,e2];simp only[aoU,aoT,apY,aoE,aoJ,List.map_nil]
theorem alD{o:List a04}{k:Nat}(hk:k<o.length):o.set k (o.getD k (0,0))=o:=by
 rw[aoh,aoj hk];simp
theorem afz{p q:Int}{o:List a04}{k:Nat}(hk:k<o.length)(h:(o.getD k (0,0)).2≠0):a1y p q o k=a1y p q o (k+1):=by
 have h1:=ab9 (p:=p) (q:=q) hk;have h2:a3W p q (o.getD k (0,0))=o.getD k (0,0):=by unfold a3W;rw[if_neg h]
 rw[h2,<-acF (p:=p) (q:=q) hk,alD (by rw[a7H _ _ _ _ om];exact hk)]at h1;exact h1
theorem ahA(p q:Int)(o:List a04):a1y p q o o.length=o.map (a3W p q):=by
 unfold a1y;rw[List.drop_length,apj,aoK]
def bN(v:Value):Nat:=match v with| .bool true=>1|_=>0
structure EqI(c:List Int)(e:Int)(w:World)(vo:Value)(left0:Int)(i:Nat)(o:List a04)(rest left:Int)(b:Bool)(wr:World):Prop where
 rs:RS c e o rest left
 le:left<=left0
 lt:b=true->left<left0
 no:b=false->∀j,j<i->(o.getD j (0,0)).2=0->rest<c.getD j 0 * left
 r8:rest<=8000
 own:OwnR wr w.heap.size vo o
 bel:Below w.heap.size w wr
theorem a5t (v:Value) (c:List Int) (e0:Int) (w:World) (hv:IntsAt w v c) (hc:Cvl c) (he:0<=e0) (hes:e0<=tot c):
  Calls prog 218 #[v,.int .i64 e0] w (GivesR (eqW c e0) w):=by
 obtain⟨i0,hi0,hz0,hz1,hz2⟩:=info_parts Tryz.infoRatio;have HH:=hid hc;have hhi:=hc.hi;have hlo:=hc.lo;have ht:=hc.tot;have e8:e0<=8000:=om;obtain⟨b,off,cap,rfl,hcc⟩:=ints_cell hv om;have HC:=hid hcc;have HT:=hid hes;have HP:=hid hc.pos;have ST:=hid (RS.start c he);clear hv hcc hc hes ht;go_enter func218,ntmps218;go_wp2_with (at_make;refine wpList_make_full _ rfl _ _ 195 rfl w.heap.size 199 i0 (.agg #[.int .i64 0,.int .i64 0]) 2 underlying195 hi0 hz0 hz1 .i64 .i64 _ _ c.length rfl rfl rfl rfl (by rw[hz2];omega) (by unfold maxLen;omega) (aof _) ?_;intro w1 hown1 hgrow1)
 have O1:OwnR w1 w.heap.size (.slice (some ⟨w.heap.size,0,none⟩) c.length c.length) (List.replicate c.length (0,0)):=by
  unfold OwnR;rw[<-ajY,List.length_replicate];exact hown1
 have B1:Below w.heap.size w w1:=(aoi _ w).grown hgrow1 (aof _) (fun k e=>by cases e)
 clear hown1 hgrow1;go_loopw [6,7,8,9] (fun r l a _ wr=>∃(o:List a04) (rest left:Int) (bb:Bool),r= .int .i64 rest/\l= .int .i64 left/\a= .bool bb/\EqI c e0 w (.slice (some ⟨w.heap.size,0,none⟩) c.length c.length) 8 (if bb then 0 else c.length) o rest left false wr) (fun _ l a _ _=>2 * (intOf l).toNat+bN a)
 case atStart=>exact⟨_,e0,c.length,true,rfl,rfl,rfl,⟨ST.out,om,fun h=>by simp at h,fun _ j hj=>by simp at hj,e8,O1,B1⟩⟩
 case round=>
  obtain⟨o0,rest0,left0,bb,rfl,rfl,rfl,EI⟩:=hrel;obtain⟨wo,rfl⟩:∃wo:World,wo=wr:=⟨_,rfl⟩
  have hl0:=a3Q o0;rw[<-EI.rs.lf]at hl0;have hl8:=EI.le;cases bb with
  | false=>
   have HE:=hid EI;have ho:=EI.own;have hb:=EI.bel;have hlen:=EI.rs.len
   have hlw:w.heap.size<wo.heap.size:=by
    obtain⟨g,cp,he,_,h2⟩:=ho.split om;simp only[Value.slice.injEq,Option.some.injEq,Addr.mk.injEq]at he;omega
   have R8:=EI.r8;have R0:=EI.rs.r0
   have FE:Hid (a1y rest0 left0 o0 c.length=eqW c e0):=hid (by
    rw[<-hlen,ahA];exact EI.rs.fin HH.out.ne HH.out.holds HT.out (fun k hk h=>EI.no rfl k (by simpa using hk) h))
   have HO:=hid ho;have HB:=hid hb;clear EI ho hb;go_wp2;go_loopw [10] (fun i wr=>∃k:Nat,k<=c.length/\i= .int .i64 k/\OwnR wr w.heap.size (.slice (some ⟨w.heap.size,0,none⟩) c.length c.length) (a1y rest0 left0 o0 k)/\Below w.heap.size w wr/\w.heap.size<wr.heap.size) (fun i _=>c.length-(intOf i).toNat)
   case atStart=>exact⟨0,aot _,rfl,by have:=HO.out;unfold a1y;simpa using this,HB.out,hlw⟩
   case round=>
    obtain⟨k,hk,rfl,hown,hbel,hgr⟩:=hrel;by_cases hlt:k<c.length
    ·have hko:k<o0.length:=om;have hfl:=a7H rest0 left0 o0 k om;have hn:c.length=(a1y rest0 left0 o0 k).length:=om
     obtain⟨x1,d1,f1,f2⟩:=hown.cells (k:=k) hn om;rw[acF hko]at x1 d1;have HN:=hid hn;have HO2:=hid hown;have HB2:=hid hbel;have hkf:k<(a1y rest0 left0 o0 k).length:=om
     clear hn hown hbel hfl;rcases HE.out.rs.each k hlt with hz|hz
     ·have hl1:1<=left0:=by have:=a7t o0 k hko (by rw[hz]);rw[HE.out.rs.lf];exact this
      have T:Hid ((a1y rest0 left0 o0 k).set k (rn rest0 left0,rd rest0 left0)=a1y rest0 left0 o0 (k+1)):=hid (by
       rw[<-ab9 hko,hz];rfl)
      rw[hz]at x1 d1;clear hz;go_wp2_with fail
      refine(a4s _ _ _ om om om om).mono ?_
      rintro e w2 ⟨rfl,hb2⟩;have hownW:=HO2.out.below hb2;obtain⟨x2,d2,g1,g2⟩:=hownW.cells (k:=k) HN.out hkf;have hbW:=below_trans HB2.out hb2;have O3:=hid (hownW.set HN.out (k:=k) hkf (rn rest0 left0,rd rest0 left0));have hgw:w.heap.size<w2.heap.size:=by have:=hb2.size;omega
      have B3:=hid ((hbW.setCell (p:=⟨w.heap.size,k * 2,none⟩) (aof _) (.int .i64 (rn rest0 left0))).setCell (p:=⟨w.heap.size,k * 2+1,none⟩) (aof _) (.int .i64 (rd rest0 left0)));unfold a1c;clear hownW hbW hb2 x1 d1 f1 f2;go_wp2;go_roundw
      case rel=>exact⟨k+1,om,by go_num,(by rw[<-T.out];exact O3.out),B3.out,by simpa using hgw⟩
      case measure=>simp[intOf];omega
     have T:Hid (a1y rest0 left0 o0 k=a1y rest0 left0 o0 (k+1)):=hid (afz hko (by rw[hz];simp));rw[hz]at x1 d1;clear hz;go_wp2;go_roundw
     case rel=>exact⟨k+1,om,by go_num,(by rw[<-T.out];exact HO2.out),HB2.out,hgr⟩
     case measure=>simp[intOf];omega
    have e:k=c.length:=om;subst e;have O:Hid (OwnR wr w.heap.size (.slice (some ⟨w.heap.size,0,none⟩) c.length c.length) (eqW c e0)):=hid (by rwa[FE.out]at hown);have B:=hid hbel;clear hown hbel;go_wp2;go_ret;exact⟨_,rfl,O.out,B.out⟩
  | true=>
   have E0:=hid EI;clear EI;go_wp2;go_loopw [6,7,8,9] (fun r l a i wr=>∃(k:Nat) (o:List a04) (rest left:Int) (bb:Bool),k<=c.length/\i= .int .i64 k/\r= .int .i64 rest/\l= .int .i64 left/\a= .bool bb/\EqI c e0 w (.slice (some ⟨w.heap.size,0,none⟩) c.length c.length) left0 k o rest left bb wr) (fun _ _ _ i _=>c.length-(intOf i).toNat)
   case atStart=>exact⟨0,o0,rest0,left0,false,aot _,rfl,rfl,rfl,rfl,⟨E0.out.rs,aoR _,fun h=>by simp at h,fun _ j hj=>om,E0.out.r8,E0.out.own,E0.out.bel⟩⟩
   case round=>
    obtain⟨k,o,rest,left,bb,hk,rfl,rfl,rfl,rfl,EI⟩:=hrel;have hl1:=a3Q o;rw[<-EI.rs.lf]at hl1;have hl9:=EI.le;have hr0:=EI.rs.r0;have hr8:=EI.r8;by_cases hlt:k<c.length
    ·have hx:=HH.out.holds _ (a1v hlt);have hcell:=keep_cell EI.bel (HC.out k hlt);have hn:=EI.rs.len.symm;have hko:k<o.length:=om;obtain⟨x1,d1,f1,f2⟩:=EI.own.cells (k:=k) hn hko;have HE:=hid EI;have HN:=hid hn;have m1:0<=c.getD k 0 * left/\c.getD k 0 * left<=1000 * 8:=⟨apk om om,apR om om om om⟩
     clear EI hn;rcases HE.out.rs.each k hlt with hz|hz
     ·rw[hz]at x1 d1;by_cases hp:c.getD k 0 * left<=rest
      ·have PR:=hid (HE.out.rs.pay HP.out hlt (by rw[hz]) hp);have hl2:=PR.out.2;have R1:Hid (a1c (c.getD k 0) 1= .agg #[.int .i64 (c.getD k 0),.int .i64 1]):=hid (by rw[alA,abM]);clear hz;generalize c.getD k 0=x at *;go_wp2_with fail
       refine(a4s _ _ _ om om om om).mono ?_
       rintro e w2 ⟨rfl,hb2⟩;rw[R1.out];have hownW:=HE.out.own.below hb2;obtain⟨x2,d2,g1,g2⟩:=hownW.cells (k:=k) HN.out hko;have hbW:=below_trans HE.out.bel hb2;have O3:=hid (hownW.set HN.out (k:=k) hko (x,1));have B3:=hid ((hbW.setCell (p:=⟨w.heap.size,k * 2,none⟩) (aof _) (.int .i64 x)).setCell (p:=⟨w.heap.size,k * 2+1,none⟩) (aof _) (.int .i64 1));have hcell2:=keep_cell hb2 hcell
       have hbl:b≠w.heap.size:=by
        have:=World.block_lt_of_cell? _ _ (HC.out k hlt);simp only at this;omega
       clear hownW hbW hb2 x1 d1 f1 f2 hcell;go_wp2;go_roundw
       case rel=>exact⟨k+1,o.set k (x,1),rest-x,left-1,true,om,by go_num,rfl,rfl,rfl,⟨PR.out.1,om,fun _=>om,fun h=>by simp at h,om,O3.out,B3.out⟩⟩
       case measure=>simp[intOf];omega
      have hp':decide (c.getD k 0 * left<=rest)=false:=decide_eq_false hp
      have EN:Hid (EqI c e0 w (.slice (some ⟨w.heap.size,0,none⟩) c.length c.length) left0 (k+1) o rest left bb wr):=hid ⟨HE.out.rs,HE.out.le,HE.out.lt,fun hb j hj h0=>by
       rcases aoO.1 hj with h|rfl
       ·exact HE.out.no hb j h h0
       omega,HE.out.r8,HE.out.own,HE.out.bel⟩
      clear hz;generalize c.getD k 0=x at *;go_wp2;go_roundw
      case rel=>exact⟨k+1,o,rest,left,bb,om,by go_num,rfl,rfl,rfl,EN.out⟩
      case measure=>simp[intOf];omega
     rw[hz]at x1 d1
     have EN:Hid (EqI c e0 w (.slice (some ⟨w.heap.size,0,none⟩) c.length c.length) left0 (k+1) o rest left bb wr):=hid ⟨HE.out.rs,HE.out.le,HE.out.lt,fun hb j hj h0=>by
      rcases aoO.1 hj with h|rfl
      ·exact HE.out.no hb j h h0
      rw[hz]at h0;simp at h0,HE.out.r8,HE.out.own,HE.out.bel⟩
     clear hz;generalize c.getD k 0=x at *;go_wp2;go_roundw
     case rel=>exact⟨k+1,o,rest,left,bb,om,by go_num,rfl,rfl,rfl,EN.out⟩
     case measure=>simp[intOf];omega
    have e:k=c.length:=om;subst e;have HE:=hid EI;clear EI;cases bb with
    |true=>
     have hlt2:=HE.out.lt rfl;go_wp2;go_roundw
     case rel=>exact⟨o,rest,left,true,rfl,rfl,rfl,⟨HE.out.rs,om,fun h=>by simp at h,fun _ j hj=>by simp at hj,HE.out.r8,HE.out.own,HE.out.bel⟩⟩
     case measure=>simp[intOf,bN];omega
    |false=>
     go_wp2;go_roundw
     case rel=>exact⟨o,rest,left,false,rfl,rfl,rfl,⟨HE.out.rs,om,fun h=>by simp at h,fun _ j hj=>HE.out.no rfl j (by simpa using hj),HE.out.r8,HE.out.own,HE.out.bel⟩⟩
     case measure=>simp[intOf,bN];omega
theorem aba(v:Value)(c:List Int)(n r:Int)(w:World)(hv:IntsAt w v c):
  Calls prog 175 #[v,.int .i64 n,.int .i64 r] w fun e w'=>e= .returned (.int .i64 (shareE c n r))/\w=w':=by
 have HV:=hid hv;clear hv;unfold shareE;by_cases h0:a44 c n=0
 ·rw[if_pos h0];have A:=hid h0;clear h0;cases hr:betw 1 r 4 with
  |false=>
   have R:=hid hr;clear hr;go_enter func175,ntmps175;go_wp2_with fail
   refine(rasked_any _ _ _ _ HV.out).mono ?_
   rintro e w' ⟨rfl,rfl⟩;rw[A.out];go_wp2_with fail
   refine(a2C _ _ _ _).mono ?_
   rintro e w' ⟨rfl,rfl⟩;rw[R.out];go_wp2;go_ret;exact⟨rfl,rfl⟩
  |true=>
   have R:=hid hr;clear hr;go_enter func175,ntmps175;go_wp2_with fail
   refine(rasked_any _ _ _ _ HV.out).mono ?_
   rintro e w' ⟨rfl,rfl⟩;rw[A.out];go_wp2_with fail
   refine(a2C _ _ _ _).mono ?_
   rintro e w' ⟨rfl,rfl⟩;rw[R.out];go_wp2;go_ret;exact⟨rfl,rfl⟩
 rw[if_neg h0];have hb:(a44 c n==0)=false:=by rw[beq_eq_false_iff_ne];exact h0
 clear h0;go_enter func175,ntmps175;go_wp2_with fail
 refine(rasked_any _ _ _ _ HV.out).mono ?_
 rintro e w' ⟨rfl,rfl⟩;go_wp2;go_ret;exact⟨rfl,rfl⟩
theorem alE(v:Value)(c:List Int)(e0 r:Int)(w:World)(hv:IntsAt w v c)(hc:Cvl c)(he:0<=e0)(hes:e0<=8000)(h2:(r==2)=false)(h3:(r==3)=false)(h4:(r==4)=false):
  Calls prog 176 #[v,.int .i64 e0,.int .i64 r] w (GivesR (a1Q c e0) w):=by
 have HV:=hid hv;have HH:=hid hc;have hhi:=hc.hi;have hlo:=hc.lo;have ht:=hc.tot;have TT:=hid (fun W q=>a3A v c W q hc);obtain⟨i0,hi0,hz0,hz1,hz2⟩:=info_parts Tryz.infoRatio;obtain⟨b,off,cap,rfl,hcc⟩:=ints_cell hv om;have HC:=hid hcc;clear hv hc hcc;have P:Hid (a1Q c e0=c.map fun x=>red (x * e0) (max (tot c) 1)):=hid (by unfold a1Q;rw[Int.max_comm]);have HL:Hid ((a1Q c e0).length=c.length):=hid (by rw[P.out,aoB]);have ha:1<=max (tot c) 1/\max (tot c) 1<=8000:=om;generalize tot c=tt at *;go_enter func176,ntmps176;go_wp2_with fail
 refine(TT.out _ HV.out).mono ?_
 rintro e w' ⟨rfl,rfl⟩;go_wp2;go_loopw [8,9] (fun o i wr=>∃k:Nat,k<=c.length/\i= .int .i64 k/\OwnR wr w.heap.size o ((a1Q c e0).take k)/\Below w.heap.size w wr) (fun _ i _=>c.length-(intOf i).toNat)
 case atStart=>exact⟨0,aot _,rfl,OwnR.nil _ _,aoi _ _⟩
 case round=>
  obtain⟨k,hk,rfl,hown,hbel⟩:=hrel;have hTk:((a1Q c e0).take k).length<=8:=by have:=HL.out;simp;omega
  by_cases hlt:k<c.length
  ·have c0:=HC.out k hlt;have c1:=keep_cell hbel c0;have hx:=HH.out.holds _ (a1v hlt);have T:Hid ((a1Q c e0).take (k+1)=(a1Q c e0).take k++[(rn (c.getD k 0 * e0) (max tt 1),rd (c.getD k 0 * e0) (max tt 1))]):=hid (by rw[P.out];exact a5h hlt);generalize c.getD k 0=x at *;have hi0':(0:Int)<=(k:Int):=Int.natCast_nonneg _;have hi1:(k:Int)<(c.length:Int):=om;have m1:0<=x * e0/\x * e0<=1000 * 8000:=⟨apk om om,apR om om om om⟩
   have RQ:=hid (fun W=>a4s (x * e0) (max tt 1) W om om om om);have hbl:b<w.heap.size:=World.block_lt_of_cell? _ _ c0;have C0:=hid c0;have HO:=hid hown;have HB:=hid hbel;have hsz:=hbel.size;have e1:IntKind.i64.wrap (x * e0)=x * e0:=IntWalk.i64_in _ om;clear c0 hown hbel;go_wp2_with fail
   go_region_held3 (fun w'=>w'.cell? ⟨b,off+k,none⟩=some (.int .i64 x))
    (first
     |(exact keep_cell hB3 C0.out)
     |(exact keep_cell (hbW.alloc hbW.size _) C0.out)
     |(exact keep_cell hbW C0.out)
     |go_keep)
    (first
     |(go_at_call 132;refine(TT.out _ (HV.out.below HB.out.drew)).mono ?_;rintro e w' ⟨rfl,rfl⟩)
     |(go_at_call 221;refine(RQ.out _).mono ?_;rintro e w2 ⟨rfl,hb2⟩;have hbW:=below_trans HB.out.drew hb2;have hownW:=HO.out.drew.below hb2;unfold a1c)
     |(refine step_append_lies _ oy _ _ _ oy w.heap.size 199 i0 _ 2 16 underlying195 hi0 hz0 hz1 hz2 rfl om _ _ _ oy (hownW.row.alloc _) ⟨w2.heap.size,0,none⟩ 1 1 [.int .i64 (rn (x * e0) (max tt 1)),.int .i64 (rd (x * e0) (max tt 1))] oy oy (World.news_of_block (cs:=#[.int .i64 (rn (x * e0) (max tt 1)),.int .i64 (rd (x * e0) (max tt 1))]) (t:=199) (fr:=(0,0)) (heap_alloc_new w2 _)) (by simp[Value.oneCell']) om (by unfold maxLen;omega) om (by have:=hbW.size;simp;omega) (w2.heap.size+1) oz ?_;intro gg cp w3 hown' hgrow hat hlt3;have hB3:=below_append hbW hbW.size hownW.row hgrow))
   have O3:Hid (OwnR w3 w.heap.size _ ((a1Q c e0).take (k+1))):=hid (by rw[T.out];exact OwnR.snoc (by first|rfl|simp) hown');have B3:=hid hB3;clear hown' hgrow hownW hbW hB3 e1 hb2 c1;go_wp2;go_roundw
   case rel=>exact⟨k+1,om,by go_num,(by have:=O3.out;rwa[aoy]at this),B3.out⟩
   case measure=>simp[intOf];omega
  have e:k=c.length:=om;subst e;have O:Hid (OwnR wr w.heap.size u8 (a1Q c e0)):=hid (by rwa[aou (by rw[HL.out];exact aof _)]at hown);have B:=hid hbel;clear hown hbel;go_wp2;go_ret;exact⟨_,rfl,O.out,B.out⟩
theorem alF(v:Value)(c:List Int)(e0:Int)(w:World)(hv:IntsAt w v c)(hc:Cvl c)(he:0<=e0)(hes:e0<=tot c):
  Calls prog 176 #[v,.int .i64 e0,.int .i64 2] w (GivesR (eqW c e0) w):=by
 have HV:=hid hv;have ht:=hc.tot;have TT:=hid (fun W q=>a3A v c W q hc);have E1:=hid (a5t v c e0 w hv hc he hes);clear hv hc;generalize tot c=tt at *;go_enter func176,ntmps176;go_wp2_with fail
 refine(TT.out _ HV.out).mono ?_
 rintro e w' ⟨rfl,rfl⟩;go_wp2_with fail
 refine E1.out.mono ?_;rintro e w1 ⟨v1,rfl,ho,hb1⟩;have O:=hid ho;have B:=hid hb1;clear ho hb1;go_wp2;go_ret;exact⟨_,rfl,O.out,B.out⟩
theorem alG(v:Value)(c:List Int)(e0:Int)(w:World)(hv:IntsAt w v c)(hc:Cvl c)(he:0<=e0)(hes:e0<=tot c):
  Calls prog 176 #[v,.int .i64 e0,.int .i64 3] w (GivesR (a1r c (eqW c (tot c-e0))) w):=by
 have HV:=hid hv;have HH:=hid hc;have ht:=hc.tot;have TT:=hid (fun W q=>a3A v c W q hc);have E1:=hid (a5t v c (tot c-e0) w hv hc om om);have M1:=hid (a6H hc (e:=tot c-e0) om om);have L1:=hid (a3L c (tot c-e0));have hhi:=hc.hi;have l8:(eqW c (tot c-e0)).length<=9223372036854775807:=by rw[L1.out];omega
 clear hv hc;generalize hg:eqW c (tot c-e0)=E at *;clear hg;generalize tot c=tt at *;go_enter func176,ntmps176;go_wp2_with fail
 refine(TT.out _ HV.out).mono ?_
 rintro e w' ⟨rfl,rfl⟩;go_wp2_with fail
 refine E1.out.mono ?_;rintro e w1 ⟨v1,rfl,ho,hb1⟩;go_wp2_with fail
 refine(acA v v1 c E w1 (HV.out.below hb1) (ho.at l8) HH.out L1.out (a6I M1.out om om)).mono ?_
 rintro e w2 ⟨v2,rfl,ho2,hb2⟩;have O:=hid (ho2.base hb1.size);have B:=hid (below_trans hb1 hb2);clear ho ho2 hb1 hb2;go_wp2;go_ret;exact⟨_,rfl,O.out,B.out⟩
theorem alH(v:Value)(c:List Int)(e0:Int)(w:World)(hv:IntsAt w v c)(hc:Cvl c)(he:0<=e0)(hes:e0<=tot c):
  Calls prog 176 #[v,.int .i64 e0,.int .i64 4] w (GivesR (a5O c e0) w):=by
 have HV:=hid hv;have HH:=hid hc;have ht:=hc.tot;have hhi:=hc.hi;have TT:=hid (fun W q=>a3A v c W q hc);by_cases h2:tot c<2 * e0
 ·have OL:Hid (a5O c e0=a1r c (a0E (eqW c (2 * (tot c-e0))))):=hid (by unfold a5O;rw[if_pos h2]);have E1:=hid (a9h a5t v c (tot c-e0) w hv hc om om);have M2:=hid (ag7 (a6H hc (e:=2 * (tot c-e0)) om om));have L2:Hid ((a0E (eqW c (2 * (tot c-e0)))).length=c.length):=hid (by rw[a8D,a3L]);have l9:(a0E (eqW c (2 * (tot c-e0)))).length<=9223372036854775807:=by rw[L2.out];omega
  rw[OL.out];clear OL hv hc;generalize hg:a0E (eqW c (2 * (tot c-e0)))=E at *;clear hg;generalize tot c=tt at *;go_enter func176,ntmps176;go_wp2_with fail
  refine(TT.out _ HV.out).mono ?_
  rintro e w' ⟨rfl,rfl⟩;go_wp2_with fail
  refine(TT.out _ HV.out).mono ?_
  rintro e w' ⟨rfl,rfl⟩;go_wp2_with fail
  refine E1.out.mono ?_;rintro e w1 ⟨v1,rfl,ho,hb1⟩;go_wp2_with fail
  refine(acA v v1 c E w1 (HV.out.below hb1) (ho.at l9) HH.out L2.out (a6I M2.out om om)).mono ?_
  rintro e w2 ⟨v2,rfl,ho2,hb2⟩;have O:=hid (ho2.base hb1.size);have B:=hid (below_trans hb1 hb2);clear ho ho2 hb1 hb2;go_wp2;go_ret;exact⟨_,rfl,O.out,B.out⟩
 have OL:Hid (a5O c e0=a0E (eqW c (2 * e0))):=hid (by unfold a5O;rw[if_neg h2]);have E1:=hid (a9h a5t v c e0 w hv hc om om);rw[OL.out];clear OL hv hc;generalize tot c=tt at *;go_enter func176,ntmps176;go_wp2_with fail
 refine(TT.out _ HV.out).mono ?_
 rintro e w' ⟨rfl,rfl⟩;go_wp2_with fail
 refine(TT.out _ HV.out).mono ?_
 rintro e w' ⟨rfl,rfl⟩;go_wp2_with fail
 refine E1.out.mono ?_;rintro e w1 ⟨v1,rfl,ho,hb1⟩;have O:=hid ho;have B:=hid hb1;clear ho hb1;go_wp2;go_ret;exact⟨_,rfl,O.out,B.out⟩
theorem rshare_any(v:Value)(c:List Int)(n r:Int)(w:World)(hv:IntsAt w v c)(hc:Cvl c)(h1:0<=n)(h2:n<=tot c)(hr:1<=r/\r<=4):
  Calls prog 176 #[v,.int .i64 n,.int .i64 r] w (GivesR (shareL c n r) w):=by
 have h4:r=1\/r=2\/r=3\/r=4:=om;rcases h4 with rfl|rfl|rfl|rfl
 ·exact alE v c n 1 w hv hc h1 (by have:=hc.tot;omega) rfl rfl rfl
 ·exact alF v c n w hv hc h1 h2
 ·exact alG v c n w hv hc h1 h2
 exact alH v c n w hv hc h1 h2
theorem ahB(v:Value)(c:List Int)(n r:Int)(w:World)(hv:IntsAt w v c):
  Calls prog 131 #[v,.int .i64 n,.int .i64 r] w (ab8 c n r w):=by
 by_cases h0:shareE c n r=0
 ·obtain⟨ha,h1,h2⟩:=a6d h0;obtain⟨hc,h3,h4⟩:=a5P ha;have S:=hid (rshare_any v c n r w hv hc h3 h4 ⟨h1,h2⟩);have R:=hid (aba v c n r w hv);have E:=hid h0;have V:Hid (a0Z c n r=shareL c n r):=hid (by unfold a0Z;rw[if_pos h0]);clear hv hc h0 ha;go_enter func131,ntmps131;go_wp2_with fail
  refine R.out.mono ?_;rintro e w' ⟨rfl,rfl⟩;rw[E.out];go_wp2_with fail
  refine S.out.mono ?_;rintro e w1 ⟨v1,rfl,ho,hb⟩;have O:=hid ho;have B:=hid hb;clear ho hb;go_wp2;go_ret2;exact⟨_,by rw[E.out];rfl,by rw[V.out];exact O.out,B.out⟩
 have R:=hid (aba v c n r w hv);have hb:(shareE c n r != 0)=true:=by rw[bne_iff_ne];exact h0
 have V:Hid (a0Z c n r=[]):=hid (by unfold a0Z;rw[if_neg h0]);clear hv h0;go_enter func131,ntmps131;go_wp2_with fail
 refine R.out.mono ?_;rintro e w' ⟨rfl,rfl⟩;go_wp2;go_ret2;exact⟨.slice none 0 0,rfl,by rw[V.out];exact OwnR.nil _ _,aoi _ _⟩
theorem abb(c:List Int)(n r:Int):(a0Z c n r).length<=9223372036854775807:=by
 unfold a0Z;split
 ·rename_i h
  obtain⟨ha,h1,h2⟩:=a6d h;obtain⟨hc,h3,h4⟩:=a5P ha;obtain⟨f,Q,S⟩:=hc.shr r h3 h4;rw[S.aw,aoB];have:=hc.hi;omega
 simp
end Go.Proofs.YtdfkaijeppdhaaaGreatDoor.Fd
namespace Go.Proofs.YtdfkaijeppdhaaaGreatDoor.Fd
theorem anO{x f Q:Int}(hQ:1<=Q)(h0:0<=f)(h1:f<=x * Q):1<=(red f Q).2/\(red f Q).2<=Q/\0<=(red f Q).1/\(red f Q).1<=x * (red f Q).2:=by
 have a:=a8W hQ h0;have b:=ab7 (n:=f) (d:=Q) (B:=f) hQ om (aoR _);have c:=(anN (n:=f) (d:=Q) (m:=x) (k:=1) hQ).2 om
 omega
def a49(c:List Int)(e:Int):Int:=(a0u (c.mergeSort (fun a b=>decide (a<=b))) e).1
def a1F(c:List Int)(e:Int):Int:=(a0u (c.mergeSort (fun a b=>decide (a<=b))) e).2
theorem a9M(c:List Int)(e:Int):1<=a1F c e:=a9L _ _
theorem abc{c:List Int}{e:Int}(h0:c≠[])(hs:e<=tot c):IsLev c e (a49 c e) (a1F c e):=abN e h0 hs
theorem a9N(c:List Int)(e:Int):eqW c e=c.map fun x=>red (cap (a49 c e) (a1F c e) x) (a1F c e):=rfl
theorem a4U{c:List Int}{e:Int}(hc:∀x∈c,0<=x)(he:0<=e):0<=a49 c e/\a1F c e<=c.length+1:=by
 have hp:=a5d c;have hb:=a8B (c.mergeSort (fun a b=>decide (a<=b))) e (fun x hx=>hc x (hp.mem_iff.1 hx)) he;have hl:=hp.length_eq;unfold a49 a1F;omega
def frF(c:List Int)(e r x:Int):Int:=
 if r=1 then x * e else if r=2 then cap (a49 c e) (a1F c e) x else if r=3 then x * a1F c (tot c-e)-cap (a49 c (tot c-e)) (a1F c (tot c-e)) x
 else if 2 * e>tot c then x * (2 * a1F c (2 * (tot c-e)))-cap (a49 c (2 * (tot c-e))) (a1F c (2 * (tot c-e))) x else cap (a49 c (2 * e)) (a1F c (2 * e)) x
def frQ(c:List Int)(e r:Int):Int:=
 if r=1 then max 1 (tot c)else if r=2 then a1F c e else if r=3 then a1F c (tot c-e)
 else if 2 * e>tot c then 2 * a1F c (2 * (tot c-e))else 2 * a1F c (2 * e)
theorem ahC(c:List Int)(e r:Int):shareL c e r=c.map fun x=>red (frF c e r x) (frQ c e r):=by
 have h2:=a9M c (tot c-e);have h3:=a9M c (2 * (tot c-e));have h4:=a9M c (2 * e);unfold shareL frF frQ;split
 ·rfl
 split
 ·rfl
 split
 ·rw[a9N,a7r c _ h2]
 split
 ·rw[a9N,a7s c _ h3,a7r c _ om]
 rw[a9N,a7s c _ h4]
theorem fr_1(c:List Int)(e:Int):frF c e 1=(fun x=>x * e)/\frQ c e 1=max 1 (tot c):=⟨by funext x;rfl,rfl⟩
theorem fr_2(c:List Int)(e:Int):frF c e 2=cap (a49 c e) (a1F c e)/\frQ c e 2=a1F c e:=⟨by funext x;rfl,rfl⟩
theorem fr_3(c:List Int)(e:Int):frF c e 3=(fun x=>x * a1F c (tot c-e)-cap (a49 c (tot c-e)) (a1F c (tot c-e)) x)/\frQ c e 3=a1F c (tot c-e):=⟨by funext x;rfl,rfl⟩
theorem ao7(c:List Int)(e:Int)(h:tot c<2 * e):frF c e 4=(fun x=>x * (2 * a1F c (2 * (tot c-e)))-cap (a49 c (2 * (tot c-e))) (a1F c (2 * (tot c-e))) x)/\frQ c e 4=2 * a1F c (2 * (tot c-e)):=
 ⟨by funext x;unfold frF;rw[if_neg om,if_neg om,if_neg om,if_pos h],by unfold frQ;rw[if_neg om,if_neg om,if_neg om,if_pos h]⟩
theorem ao8(c:List Int)(e:Int)(h:¬tot c<2 * e):frF c e 4=cap (a49 c (2 * e)) (a1F c (2 * e))/\frQ c e 4=2 * a1F c (2 * e):=
 ⟨by funext x;unfold frF;rw[if_neg om,if_neg om,if_neg om,if_neg h],by unfold frQ;rw[if_neg om,if_neg om,if_neg om,if_neg h]⟩
theorem ahD{c:List Int}{e r:Int}(h0:c≠[])(hc:∀x∈c,0<=x)(hn:c.length<=8)(ht:tot c<=8000)(he:0<=e)(hs:e<=tot c)(hr:1<=r/\r<=4):Shr c e (shareL c e r) (frF c e r) (frQ c e r):=by
 have hF:=ahC c e r;have h4:r=1\/r=2\/r=3\/r=4:=om;rcases h4 with rfl|rfl|rfl|rfl
 ·obtain⟨e1,e2⟩:=fr_1 c e;rw[e1,e2]at hF⊢;refine⟨om,om,hF,?_,fun x hx=>apk (hc x hx) he,fun x hx=>?_,fun x hx y hy hxy=>?_⟩
  ·rw[a3h,aps e];by_cases h:1<=tot c
   ·rw[Int.max_eq_right h]
   have:e=0:=om;rw[this];simp
  ·exact aph om (hc x hx)
  refine⟨aoo hxy he,?_⟩;rw[<-Int.mul_sub,<-Int.mul_sub];exact aoo hxy om
 ·obtain⟨e1,e2⟩:=fr_2 c e;rw[e1,e2]at hF⊢;have hl:=abc h0 hs;obtain⟨hp,hq9⟩:=a4U hc he;have hq:=hl.hq;exact⟨hq,om,hF,hl.sum,fun x hx=>(a0v hq hp (hc x hx) (aoR x)).1,fun x hx=>(a0v hq hp (hc x hx) (aoR x)).2.1,fun x hx y _ hxy=>(a0v hq hp (hc x hx) hxy).2.2⟩
 ·obtain⟨e1,e2⟩:=fr_3 c e;rw[e1,e2]at hF⊢;have hl:=abc (e:=tot c-e) h0 om;obtain⟨hp,hq9⟩:=a4U (e:=tot c-e) hc om;have hq:=hl.hq;generalize a49 c (tot c-e)=p at *;generalize a1F c (tot c-e)=q at *;refine⟨hq,om,hF,?_,fun x hx=>?_,fun x hx=>?_,fun x hx y _ hxy=>?_⟩
  ·rw[a5M,a3h,hl.sum,apT];omega
  ·have:=(a0v hq hp (hc x hx) (aoR x)).2.1;omega
  ·have:=(a0v hq hp (hc x hx) (aoR x)).1;omega
  have:=(a0v hq hp (hc x hx) hxy).2.2
  have h2:x * q<=y * q:=aoo hxy om;omega
 by_cases h2e:tot c<2 * e
 ·obtain⟨e1,e2⟩:=ao7 c e h2e;rw[e1,e2]at hF⊢;have hl:=abc (e:=2 * (tot c-e)) h0 om;obtain⟨hp,hq9⟩:=a4U (e:=2 * (tot c-e)) hc om;have hq:=hl.hq;generalize a49 c (2 * (tot c-e))=p at *;generalize a1F c (2 * (tot c-e))=q at *;refine⟨om,om,hF,?_,fun x hx=>?_,fun x hx=>?_,fun x hx y _ hxy=>?_⟩
  ·rw[a5M,a3h,hl.sum,aoC (tot c) 2 q,aoC e 2 q,apq,apT];omega
  ·have:=(a0v hq hp (hc x hx) (aoR x)).2.1
   have h1:0<=x * q:=apk (hc x hx) om;rw[aoC];omega
  ·have:=(a0v hq hp (hc x hx) (aoR x)).1;omega
  have:=(a0v hq hp (hc x hx) hxy).2.2
  have h2:x * q<=y * q:=aoo hxy om;rw[aoC x,aoC y];omega
 obtain⟨e1,e2⟩:=ao8 c e h2e;rw[e1,e2]at hF⊢;have hl:=abc (e:=2 * e) h0 om;obtain⟨hp,hq9⟩:=a4U (e:=2 * e) hc om;have hq:=hl.hq;generalize a49 c (2 * e)=p at *;generalize a1F c (2 * e)=q at *;refine⟨om,om,hF,?_,fun x hx=>(a0v hq hp (hc x hx) (aoR x)).1,fun x hx=>?_,fun x hx y _ hxy=>?_⟩
 ·rw[hl.sum,aoC e 2 q,apq]
 ·have:=(a0v hq hp (hc x hx) (aoR x)).2.1
  have h1:0<=x * q:=apk (hc x hx) om;rw[aoC];omega
 have:=(a0v hq hp (hc x hx) hxy).2.2
 have h2:x * q<=y * q:=aoo hxy om;rw[aoC x,aoC y];omega
end Go.Proofs.YtdfkaijeppdhaaaGreatDoor.Fd
