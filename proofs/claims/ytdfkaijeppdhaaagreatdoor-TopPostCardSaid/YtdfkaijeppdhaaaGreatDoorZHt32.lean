/- Part of the proof. -/
import Derived.Test.YtdfkaijeppdhaaaGreatDoorZHt31
set_option maxRecDepth 100000
set_option maxHeartbeats 8000000
set_option linter.unusedSimpArgs false
set_option linter.unusedVariables false

namespace Go.Proofs.YtdfkaijeppdhaaaGreatDoor.Fd
open Go.RowKit
open Lib (hid)
theorem ai6(n:Nat):(madeCells (Value.agg #[.int .i64 0,.int .i64 0]).cells (n * 2)).toList=a0S (List.replicate n (0,0)):=by
 apply List.ext_getElem?;intro j;by_cases hj:j<n * 2
 ·have hd:j / 2<n:=by omega
  have h:=a3b (List.replicate n ((0,0):anm)) (j / 2) (by simpa using hd);have e0:(List.replicate n ((0,0):anm)).getD (j / 2) (0,0)=(0,0):=by simp[abs,hd]
  rw[e0]at h
  have hm:(madeCells (Value.agg #[.int .i64 0,.int .i64 0]).cells (n * 2)).toList[j]? =some (.int .i64 0):=by
   rcases Nat.mod_two_eq_zero_or_one j with h2|h2<;>simp[madeCells,hj,Value.cells,h2]
  rw[hm];rcases Nat.mod_two_eq_zero_or_one j with h2|h2
  ·rw[show j=j / 2 * 2 by omega,h.1]
  rw[show j=j / 2 * 2+1 by omega,h.2]
 have h1:(madeCells (Value.agg #[.int .i64 0,.int .i64 0]).cells (n * 2)).toList.length=n * 2:=by simp[madeCells]
 have h2:(a0S (List.replicate n ((0,0):anm))).length=n * 2:=by simp[a0S,aoe,List.length_flatMap]
 rw[aml (by omega),aml (by omega)]
def a18(p q:Int)(o:List anm)(k:Nat):List anm:=(o.take k).map (a35 p q)++o.drop k
theorem a6j(p q:Int)(o:List anm)(k:Nat)(hk:k<=o.length):(a18 p q o k).length=o.length:=by
 unfold a18;simp;omega
theorem aaU{p q:Int}{o:List anm}{k:Nat}(hk:k<o.length):(a18 p q o k).getD k (0,0)=o.getD k (0,0):=by
 unfold a18;have:((o.take k).map (a35 p q)).length=k:=by simp;omega
 simp only[abs];rw[am9 (by omega),this,List.getElem?_drop];simp
theorem a9y{p q:Int}{o:List anm}{k:Nat}(hk:k<o.length):(a18 p q o k).set k (a35 p q (o.getD k (0,0)))=a18 p q o (k+1):=by
 unfold a18;have:((o.take k).map (a35 p q)).length=k:=by simp;omega
 have e:o.drop k=o[k]::o.drop (k+1):=am3 hk
 have e2:o.take (k+1)=o.take k++[o.getD k (0,0)]:=by
  rw[alC hk,abs,alz hk];rfl
 rw[List.set_append_right _ _ (by omega),this,ani,e,e2];simp only[am5,am6,ana,alQ,alW,List.map_nil]
theorem ajJ{o:List anm}{k:Nat}(hk:k<o.length):o.set k (o.getD k (0,0))=o:=by
 rw[abs,alz hk];simp
theorem adE{p q:Int}{o:List anm}{k:Nat}(hk:k<o.length)(h:(o.getD k (0,0)).2≠0):a18 p q o k=a18 p q o (k+1):=by
 have h1:=a9y (p:=p) (q:=q) hk;have h2:a35 p q (o.getD k (0,0))=o.getD k (0,0):=by unfold a35;rw[if_neg h]
 rw[h2,<-aaU (p:=p) (q:=q) hk,ajJ (by rw[a6j _ _ _ _ (by omega)];exact hk)]at h1;exact h1
theorem afF(p q:Int)(o:List anm):a18 p q o o.length=o.map (a35 p q):=by
 unfold a18;rw[List.drop_length,amv,alV]
def bN(v:Value):Nat:=match v with| .bool true=>1|_=>0
structure EqI(c:List Int)(e:Int)(w:World)(vo:Value)(left0:Int)(i:Nat)(o:List anm)(rest left:Int)(b:Bool)(wr:World):Prop where
 rs:RS c e o rest left
 le:left<=left0
 lt:b=true->left<left0
 no:b=false->∀j,j<i->(o.getD j (0,0)).2=0->rest<c.getD j 0 * left
 r8:rest<=8000
 own:OwnR wr w.heap.size vo o
 bel:Below w.heap.size w wr
theorem a4o (v:Value) (c:List Int) (e0:Int) (w:World) (hv:IntsAt w v c) (hc:Cvl c) (he:0<=e0) (hes:e0<=tot c):
  Calls Tryz.prog 218 #[v,.int .i64 e0] w (GivesR (eqW c e0) w):=by
 obtain⟨i0,hi0,hz0,hz1,hz2⟩:=info_parts Tryz.infoRatio;have HH:=hid hc;have hhi:=hc.hi;have hlo:=hc.lo;have ht:=hc.tot;have e8:e0<=8000:=by omega
 obtain⟨b,off,cap,rfl,hcc⟩:=ints_cell hv (by omega);have HC:=hid hcc;have HT:=hid hes;have HP:=hid hc.pos;have ST:=hid (RS.start c he);clear hv hcc hc hes ht;go_enter Tryz.func218,Tryz.ntmps218;go_wp2_with (at_make;refine wpList_make_full _ rfl _ _ 195 rfl w.heap.size 199 i0 (.agg #[.int .i64 0,.int .i64 0]) 2 Tryz.underlying195 hi0 hz0 hz1 .i64 .i64 _ _ c.length rfl rfl rfl rfl (by rw[hz2];omega) (by unfold maxLen;omega) (aly _) ?_;intro w1 hown1 hgrow1)
 have O1:OwnR w1 w.heap.size (.slice (some ⟨w.heap.size,0,none⟩) c.length c.length) (List.replicate c.length (0,0)):=by
  unfold OwnR;rw[<-ai6,List.length_replicate];exact hown1
 have B1:Below w.heap.size w w1:=(apC _ w).grown hgrow1 (aly _) (fun k e=>by cases e)
 clear hown1 hgrow1;go_loopw [6,7,8,9] (fun r l a _ wr=>∃(o:List anm) (rest left:Int) (bb:Bool),r= .int .i64 rest/\l= .int .i64 left/\a= .bool bb/\EqI c e0 w (.slice (some ⟨w.heap.size,0,none⟩) c.length c.length) 8 (if bb then 0 else c.length) o rest left false wr) (fun _ l a _ _=>2 * (intOf l).toNat+bN a)
 case atStart=>exact⟨_,e0,c.length,true,rfl,rfl,rfl,⟨ST.out,by omega,fun h=>by simp at h,fun _ j hj=>by simp at hj,e8,O1,B1⟩⟩
 case round=>
  obtain⟨o0,rest0,left0,bb,rfl,rfl,rfl,EI⟩:=hrel;obtain⟨wo,rfl⟩:∃wo:World,wo=wr:=⟨_,rfl⟩
  have hl0:=a2Z o0;rw[<-EI.rs.lf]at hl0;have hl8:=EI.le;cases bb with
  | false=>
   have HE:=hid EI;have ho:=EI.own;have hb:=EI.bel;have hlen:=EI.rs.len
   have hlw:w.heap.size<wo.heap.size:=by
    obtain⟨g,cp,he,_,h2⟩:=ho.split (by omega);simp only[Value.slice.injEq,Option.some.injEq,Addr.mk.injEq]at he;omega
   have R8:=EI.r8;have R0:=EI.rs.r0
   have FE:Hid (a18 rest0 left0 o0 c.length=eqW c e0):=hid (by
    rw[<-hlen,afF];exact EI.rs.fin HH.out.ne HH.out.holds HT.out (fun k hk h=>EI.no rfl k (by simpa using hk) h))
   have HO:=hid ho;have HB:=hid hb;clear EI ho hb;go_wp2;go_loopw [10] (fun i wr=>∃k:Nat,k<=c.length/\i= .int .i64 k/\OwnR wr w.heap.size (.slice (some ⟨w.heap.size,0,none⟩) c.length c.length) (a18 rest0 left0 o0 k)/\Below w.heap.size w wr/\w.heap.size<wr.heap.size) (fun i _=>c.length-(intOf i).toNat)
   case atStart=>exact⟨0,alE _,rfl,by have:=HO.out;unfold a18;simpa using this,HB.out,hlw⟩
   case round=>
    obtain⟨k,hk,rfl,hown,hbel,hgr⟩:=hrel;by_cases hlt:k<c.length
    ·have hko:k<o0.length:=by omega
     have hfl:=a6j rest0 left0 o0 k (by omega);have hn:c.length=(a18 rest0 left0 o0 k).length:=by omega
     obtain⟨x1,d1,f1,f2⟩:=hown.cells (k:=k) hn (by omega);rw[aaU hko]at x1 d1;have HN:=hid hn;have HO2:=hid hown;have HB2:=hid hbel;have hkf:k<(a18 rest0 left0 o0 k).length:=by omega
     clear hn hown hbel hfl;rcases HE.out.rs.each k hlt with hz|hz
     ·have hl1:1<=left0:=by have:=a68 o0 k hko (by rw[hz]);rw[HE.out.rs.lf];exact this
      have T:Hid ((a18 rest0 left0 o0 k).set k (rn rest0 left0,rd rest0 left0)=a18 rest0 left0 o0 (k+1)):=hid (by
       rw[<-a9y hko,hz];rfl)
      rw[hz]at x1 d1;clear hz;go_wp2_with fail
      refine(a3u _ _ _ (by omega) (by omega) (by omega) (by omega)).mono ?_
      rintro e w2 ⟨rfl,hb2⟩;have hownW:=HO2.out.below hb2;obtain⟨x2,d2,g1,g2⟩:=hownW.cells (k:=k) HN.out hkf;have hbW:=below_trans HB2.out hb2;have O3:=hid (hownW.set HN.out (k:=k) hkf (rn rest0 left0,rd rest0 left0));have hgw:w.heap.size<w2.heap.size:=by have:=hb2.size;omega
      have B3:=hid ((hbW.setCell (p:=⟨w.heap.size,k * 2,none⟩) (aly _) (.int .i64 (rn rest0 left0))).setCell (p:=⟨w.heap.size,k * 2+1,none⟩) (aly _) (.int .i64 (rd rest0 left0)));unfold anE;clear hownW hbW hb2 x1 d1 f1 f2;go_wp2;go_roundw
      case rel=>exact⟨k+1,by omega,by go_num,(by rw[<-T.out];exact O3.out),B3.out,by simpa using hgw⟩
      case measure=>simp[intOf];omega
     have T:Hid (a18 rest0 left0 o0 k=a18 rest0 left0 o0 (k+1)):=hid (adE hko (by rw[hz];simp));rw[hz]at x1 d1;clear hz;go_wp2;go_roundw
     case rel=>exact⟨k+1,by omega,by go_num,(by rw[<-T.out];exact HO2.out),HB2.out,hgr⟩
     case measure=>simp[intOf];omega
    have e:k=c.length:=by omega
    subst e;have O:Hid (OwnR wr w.heap.size (.slice (some ⟨w.heap.size,0,none⟩) c.length c.length) (eqW c e0)):=hid (by rwa[FE.out]at hown);have B:=hid hbel;clear hown hbel;go_wp2;go_ret;exact⟨_,rfl,O.out,B.out⟩
  | true=>
   have E0:=hid EI;clear EI;go_wp2;go_loopw [6,7,8,9] (fun r l a i wr=>∃(k:Nat) (o:List anm) (rest left:Int) (bb:Bool),k<=c.length/\i= .int .i64 k/\r= .int .i64 rest/\l= .int .i64 left/\a= .bool bb/\EqI c e0 w (.slice (some ⟨w.heap.size,0,none⟩) c.length c.length) left0 k o rest left bb wr) (fun _ _ _ i _=>c.length-(intOf i).toNat)
   case atStart=>exact⟨0,o0,rest0,left0,false,alE _,rfl,rfl,rfl,rfl,⟨E0.out.rs,am4 _,fun h=>by simp at h,fun _ j hj=>by omega,E0.out.r8,E0.out.own,E0.out.bel⟩⟩
   case round=>
    obtain⟨k,o,rest,left,bb,hk,rfl,rfl,rfl,rfl,EI⟩:=hrel;have hl1:=a2Z o;rw[<-EI.rs.lf]at hl1;have hl9:=EI.le;have hr0:=EI.rs.r0;have hr8:=EI.r8;by_cases hlt:k<c.length
    ·have hx:=HH.out.holds _ (a16 hlt);have hcell:=keep_cell EI.bel (HC.out k hlt);have hn:=EI.rs.len.symm;have hko:k<o.length:=by omega
     obtain⟨x1,d1,f1,f2⟩:=EI.own.cells (k:=k) hn hko;have HE:=hid EI;have HN:=hid hn;have m1:0<=c.getD k 0 * left/\c.getD k 0 * left<=1000 * 8:=⟨amw (by omega) (by omega),an4 (by omega) (by omega) (by omega) (by omega)⟩
     clear EI hn;rcases HE.out.rs.each k hlt with hz|hz
     ·rw[hz]at x1 d1;by_cases hp:c.getD k 0 * left<=rest
      ·have PR:=hid (HE.out.rs.pay HP.out hlt (by rw[hz]) hp);have hl2:=PR.out.2;have R1:Hid (anE (c.getD k 0) 1= .agg #[.int .i64 (c.getD k 0),.int .i64 1]):=hid (by rw[ajG,aa2]);clear hz;generalize c.getD k 0=x at *;go_wp2_with fail
       refine(a3u _ _ _ (by omega) (by omega) (by omega) (by omega)).mono ?_
       rintro e w2 ⟨rfl,hb2⟩;rw[R1.out];have hownW:=HE.out.own.below hb2;obtain⟨x2,d2,g1,g2⟩:=hownW.cells (k:=k) HN.out hko;have hbW:=below_trans HE.out.bel hb2;have O3:=hid (hownW.set HN.out (k:=k) hko (x,1));have B3:=hid ((hbW.setCell (p:=⟨w.heap.size,k * 2,none⟩) (aly _) (.int .i64 x)).setCell (p:=⟨w.heap.size,k * 2+1,none⟩) (aly _) (.int .i64 1));have hcell2:=keep_cell hb2 hcell
       have hbl:b≠w.heap.size:=by
        have:=World.block_lt_of_cell? _ _ (HC.out k hlt);simp only at this;omega
       clear hownW hbW hb2 x1 d1 f1 f2 hcell;go_wp2;go_roundw
       case rel=>exact⟨k+1,o.set k (x,1),rest-x,left-1,true,by omega,by go_num,rfl,rfl,rfl,⟨PR.out.1,by omega,fun _=>by omega,fun h=>by simp at h,by omega,O3.out,B3.out⟩⟩
       case measure=>simp[intOf];omega
      have hp':decide (c.getD k 0 * left<=rest)=false:=decide_eq_false hp
      have EN:Hid (EqI c e0 w (.slice (some ⟨w.heap.size,0,none⟩) c.length c.length) left0 (k+1) o rest left bb wr):=hid ⟨HE.out.rs,HE.out.le,HE.out.lt,fun hb j hj h0=>by
       rcases am0.1 hj with h|rfl
       ·exact HE.out.no hb j h h0
       omega,HE.out.r8,HE.out.own,HE.out.bel⟩
      clear hz;generalize c.getD k 0=x at *;go_wp2;go_roundw
      case rel=>exact⟨k+1,o,rest,left,bb,by omega,by go_num,rfl,rfl,rfl,EN.out⟩
      case measure=>simp[intOf];omega
     rw[hz]at x1 d1
     have EN:Hid (EqI c e0 w (.slice (some ⟨w.heap.size,0,none⟩) c.length c.length) left0 (k+1) o rest left bb wr):=hid ⟨HE.out.rs,HE.out.le,HE.out.lt,fun hb j hj h0=>by
      rcases am0.1 hj with h|rfl
      ·exact HE.out.no hb j h h0
      rw[hz]at h0;simp at h0,HE.out.r8,HE.out.own,HE.out.bel⟩
     clear hz;generalize c.getD k 0=x at *;go_wp2;go_roundw
     case rel=>exact⟨k+1,o,rest,left,bb,by omega,by go_num,rfl,rfl,rfl,EN.out⟩
     case measure=>simp[intOf];omega
    have e:k=c.length:=by omega
    subst e;have HE:=hid EI;clear EI;cases bb with
    |true=>
     have hlt2:=HE.out.lt rfl;go_wp2;go_roundw
     case rel=>exact⟨o,rest,left,true,rfl,rfl,rfl,⟨HE.out.rs,by omega,fun h=>by simp at h,fun _ j hj=>by simp at hj,HE.out.r8,HE.out.own,HE.out.bel⟩⟩
     case measure=>simp[intOf,bN];omega
    |false=>
     go_wp2;go_roundw
     case rel=>exact⟨o,rest,left,false,rfl,rfl,rfl,⟨HE.out.rs,by omega,fun h=>by simp at h,fun _ j hj=>HE.out.no rfl j (by simpa using hj),HE.out.r8,HE.out.own,HE.out.bel⟩⟩
     case measure=>simp[intOf,bN];omega
theorem a9z(v:Value)(c:List Int)(n r:Int)(w:World)(hv:IntsAt w v c):
  Calls Tryz.prog 175 #[v,.int .i64 n,.int .i64 r] w fun e w'=>e= .returned (.int .i64 (shareE c n r))/\w=w':=by
 have HV:=hid hv;clear hv;unfold shareE;by_cases h0:ao2 c n=0
 ·rw[if_pos h0];have A:=hid h0;clear h0;cases hr:betw 1 r 4 with
  |false=>
   have R:=hid hr;clear hr;go_enter Tryz.func175,Tryz.ntmps175;go_wp2_with fail
   refine(rasked_any _ _ _ _ HV.out).mono ?_
   rintro e w' ⟨rfl,rfl⟩;rw[A.out];go_wp2_with fail
   refine(a1X _ _ _ _).mono ?_
   rintro e w' ⟨rfl,rfl⟩;rw[R.out];go_wp2;go_ret;exact⟨rfl,rfl⟩
  |true=>
   have R:=hid hr;clear hr;go_enter Tryz.func175,Tryz.ntmps175;go_wp2_with fail
   refine(rasked_any _ _ _ _ HV.out).mono ?_
   rintro e w' ⟨rfl,rfl⟩;rw[A.out];go_wp2_with fail
   refine(a1X _ _ _ _).mono ?_
   rintro e w' ⟨rfl,rfl⟩;rw[R.out];go_wp2;go_ret;exact⟨rfl,rfl⟩
 rw[if_neg h0];have hb:(ao2 c n==0)=false:=by rw[beq_eq_false_iff_ne];exact h0
 clear h0;go_enter Tryz.func175,Tryz.ntmps175;go_wp2_with fail
 refine(rasked_any _ _ _ _ HV.out).mono ?_
 rintro e w' ⟨rfl,rfl⟩;go_wp2;go_ret;exact⟨rfl,rfl⟩
theorem ajK(v:Value)(c:List Int)(e0 r:Int)(w:World)(hv:IntsAt w v c)(hc:Cvl c)(he:0<=e0)(hes:e0<=8000)(h2:(r==2)=false)(h3:(r==3)=false)(h4:(r==4)=false):
  Calls Tryz.prog 176 #[v,.int .i64 e0,.int .i64 r] w (GivesR (a1l c e0) w):=by
 have HV:=hid hv;have HH:=hid hc;have hhi:=hc.hi;have hlo:=hc.lo;have ht:=hc.tot;have TT:=hid (fun W q=>a2K v c W q hc);obtain⟨i0,hi0,hz0,hz1,hz2⟩:=info_parts Tryz.infoRatio;obtain⟨b,off,cap,rfl,hcc⟩:=ints_cell hv (by omega);have HC:=hid hcc;clear hv hc hcc;have P:Hid (a1l c e0=c.map fun x=>red (x * e0) (max (tot c) 1)):=hid (by unfold a1l;rw[Int.max_comm]);have HL:Hid ((a1l c e0).length=c.length):=hid (by rw[P.out,alN]);have ha:1<=max (tot c) 1/\max (tot c) 1<=8000:=by omega
 generalize tot c=tt at *;go_enter Tryz.func176,Tryz.ntmps176;go_wp2_with fail
 refine(TT.out _ HV.out).mono ?_
 rintro e w' ⟨rfl,rfl⟩;go_wp2;go_loopw [8,9] (fun o i wr=>∃k:Nat,k<=c.length/\i= .int .i64 k/\OwnR wr w.heap.size o ((a1l c e0).take k)/\Below w.heap.size w wr) (fun _ i _=>c.length-(intOf i).toNat)
 case atStart=>exact⟨0,alE _,rfl,OwnR.nil _ _,apC _ _⟩
 case round=>
  obtain⟨k,hk,rfl,hown,hbel⟩:=hrel;have hTk:((a1l c e0).take k).length<=8:=by have:=HL.out;simp;omega
  by_cases hlt:k<c.length
  ·have c0:=HC.out k hlt;have c1:=keep_cell hbel c0;have hx:=HH.out.holds _ (a16 hlt);have T:Hid ((a1l c e0).take (k+1)=(a1l c e0).take k++[(rn (c.getD k 0 * e0) (max tt 1),rd (c.getD k 0 * e0) (max tt 1))]):=hid (by rw[P.out];exact a4b hlt);generalize c.getD k 0=x at *;have hi0':(0:Int)<=(k:Int):=Int.natCast_nonneg _;have hi1:(k:Int)<(c.length:Int):=by omega
   have m1:0<=x * e0/\x * e0<=1000 * 8000:=⟨amw (by omega) (by omega),an4 (by omega) (by omega) (by omega) (by omega)⟩
   have RQ:=hid (fun W=>a3u (x * e0) (max tt 1) W (by omega) (by omega) (by omega) (by omega));have hbl:b<w.heap.size:=World.block_lt_of_cell? _ _ c0;have C0:=hid c0;have HO:=hid hown;have HB:=hid hbel;have hsz:=hbel.size;have e1:IntKind.i64.wrap (x * e0)=x * e0:=IntWalk.i64_in _ (by omega);clear c0 hown hbel;go_wp2_with fail
   go_region_held3 (fun w'=>w'.cell? ⟨b,off+k,none⟩=some (.int .i64 x))
    (first
     |(exact keep_cell hB3 C0.out)
     |(exact keep_cell (hbW.alloc hbW.size _) C0.out)
     |(exact keep_cell hbW C0.out)
     |go_keep)
    (first
     |(go_at_call 132;refine(TT.out _ (HV.out.below HB.out.drew)).mono ?_;rintro e w' ⟨rfl,rfl⟩)
     |(go_at_call 221;refine(RQ.out _).mono ?_;rintro e w2 ⟨rfl,hb2⟩;have hbW:=below_trans HB.out.drew hb2;have hownW:=HO.out.drew.below hb2;unfold anE)
     |(refine step_append_lies _ (by rfl) _ _ _ (by rfl) w.heap.size 199 i0 _ 2 16 Tryz.underlying195 hi0 hz0 hz1 hz2 rfl (by omega) _ _ _ (by rfl) (hownW.row.alloc _) ⟨w2.heap.size,0,none⟩ 1 1 [.int .i64 (rn (x * e0) (max tt 1)),.int .i64 (rd (x * e0) (max tt 1))] (by rfl) (by rfl) (World.news_of_block (cs:=#[.int .i64 (rn (x * e0) (max tt 1)),.int .i64 (rd (x * e0) (max tt 1))]) (t:=199) (fr:=(0,0)) (heap_alloc_new w2 _)) (by simp[Value.oneCell']) (by omega) (by unfold maxLen;omega) (by omega) (by have:=hbW.size;simp;omega) (w2.heap.size+1) (by simp) ?_;intro gg cp w3 hown' hgrow hat hlt3;have hB3:=below_append hbW hbW.size hownW.row hgrow))
   have O3:Hid (OwnR w3 w.heap.size _ ((a1l c e0).take (k+1))):=hid (by rw[T.out];exact OwnR.snoc (by first|rfl|simp) hown');have B3:=hid hB3;clear hown' hgrow hownW hbW hB3 e1 hb2 c1;go_wp2;go_roundw
   case rel=>exact⟨k+1,by omega,by go_num,(by have:=O3.out;rwa[alL]at this),B3.out⟩
   case measure=>simp[intOf];omega
  have e:k=c.length:=by omega
  subst e;have O:Hid (OwnR wr w.heap.size u8 (a1l c e0)):=hid (by rwa[alG (by rw[HL.out];exact aly _)]at hown);have B:=hid hbel;clear hown hbel;go_wp2;go_ret;exact⟨_,rfl,O.out,B.out⟩
theorem ajL(v:Value)(c:List Int)(e0:Int)(w:World)(hv:IntsAt w v c)(hc:Cvl c)(he:0<=e0)(hes:e0<=tot c):
  Calls Tryz.prog 176 #[v,.int .i64 e0,.int .i64 2] w (GivesR (eqW c e0) w):=by
 have HV:=hid hv;have ht:=hc.tot;have TT:=hid (fun W q=>a2K v c W q hc);have E1:=hid (a4o v c e0 w hv hc he hes);clear hv hc;generalize tot c=tt at *;go_enter Tryz.func176,Tryz.ntmps176;go_wp2_with fail
 refine(TT.out _ HV.out).mono ?_
 rintro e w' ⟨rfl,rfl⟩;go_wp2_with fail
 refine E1.out.mono ?_;rintro e w1 ⟨v1,rfl,ho,hb1⟩;have O:=hid ho;have B:=hid hb1;clear ho hb1;go_wp2;go_ret;exact⟨_,rfl,O.out,B.out⟩
theorem ajM(v:Value)(c:List Int)(e0:Int)(w:World)(hv:IntsAt w v c)(hc:Cvl c)(he:0<=e0)(hes:e0<=tot c):
  Calls Tryz.prog 176 #[v,.int .i64 e0,.int .i64 3] w (GivesR (a14 c (eqW c (tot c-e0))) w):=by
 have HV:=hid hv;have HH:=hid hc;have ht:=hc.tot;have TT:=hid (fun W q=>a2K v c W q hc);have E1:=hid (a4o v c (tot c-e0) w hv hc (by omega) (by omega));have M1:=hid (a5t hc (e:=tot c-e0) (by omega) (by omega));have L1:=hid (a2W c (tot c-e0));have hhi:=hc.hi;have l8:(eqW c (tot c-e0)).length<=9223372036854775807:=by rw[L1.out];omega
 clear hv hc;generalize hg:eqW c (tot c-e0)=E at *;clear hg;generalize tot c=tt at *;go_enter Tryz.func176,Tryz.ntmps176;go_wp2_with fail
 refine(TT.out _ HV.out).mono ?_
 rintro e w' ⟨rfl,rfl⟩;go_wp2_with fail
 refine E1.out.mono ?_;rintro e w1 ⟨v1,rfl,ho,hb1⟩;go_wp2_with fail
 refine(aaP v v1 c E w1 (HV.out.below hb1) (ho.at l8) HH.out L1.out (a5u M1.out (by omega) (by omega))).mono ?_
 rintro e w2 ⟨v2,rfl,ho2,hb2⟩;have O:=hid (ho2.base hb1.size);have B:=hid (below_trans hb1 hb2);clear ho ho2 hb1 hb2;go_wp2;go_ret;exact⟨_,rfl,O.out,B.out⟩
theorem ajN(v:Value)(c:List Int)(e0:Int)(w:World)(hv:IntsAt w v c)(hc:Cvl c)(he:0<=e0)(hes:e0<=tot c):
  Calls Tryz.prog 176 #[v,.int .i64 e0,.int .i64 4] w (GivesR (aob c e0) w):=by
 have HV:=hid hv;have HH:=hid hc;have ht:=hc.tot;have hhi:=hc.hi;have TT:=hid (fun W q=>a2K v c W q hc);by_cases h2:tot c<2 * e0
 ·have OL:Hid (aob c e0=a14 c (a0p (eqW c (2 * (tot c-e0))))):=hid (by unfold aob;rw[if_pos h2]);have E1:=hid (a7O a4o v c (tot c-e0) w hv hc (by omega) (by omega));have M2:=hid (aef (a5t hc (e:=2 * (tot c-e0)) (by omega) (by omega)));have L2:Hid ((a0p (eqW c (2 * (tot c-e0)))).length=c.length):=hid (by rw[a7d,a2W]);have l9:(a0p (eqW c (2 * (tot c-e0)))).length<=9223372036854775807:=by rw[L2.out];omega
  rw[OL.out];clear OL hv hc;generalize hg:a0p (eqW c (2 * (tot c-e0)))=E at *;clear hg;generalize tot c=tt at *;go_enter Tryz.func176,Tryz.ntmps176;go_wp2_with fail
  refine(TT.out _ HV.out).mono ?_
  rintro e w' ⟨rfl,rfl⟩;go_wp2_with fail
  refine(TT.out _ HV.out).mono ?_
  rintro e w' ⟨rfl,rfl⟩;go_wp2_with fail
  refine E1.out.mono ?_;rintro e w1 ⟨v1,rfl,ho,hb1⟩;go_wp2_with fail
  refine(aaP v v1 c E w1 (HV.out.below hb1) (ho.at l9) HH.out L2.out (a5u M2.out (by omega) (by omega))).mono ?_
  rintro e w2 ⟨v2,rfl,ho2,hb2⟩;have O:=hid (ho2.base hb1.size);have B:=hid (below_trans hb1 hb2);clear ho ho2 hb1 hb2;go_wp2;go_ret;exact⟨_,rfl,O.out,B.out⟩
 have OL:Hid (aob c e0=a0p (eqW c (2 * e0))):=hid (by unfold aob;rw[if_neg h2]);have E1:=hid (a7O a4o v c e0 w hv hc (by omega) (by omega));rw[OL.out];clear OL hv hc;generalize tot c=tt at *;go_enter Tryz.func176,Tryz.ntmps176;go_wp2_with fail
 refine(TT.out _ HV.out).mono ?_
 rintro e w' ⟨rfl,rfl⟩;go_wp2_with fail
 refine(TT.out _ HV.out).mono ?_
 rintro e w' ⟨rfl,rfl⟩;go_wp2_with fail
 refine E1.out.mono ?_;rintro e w1 ⟨v1,rfl,ho,hb1⟩;have O:=hid ho;have B:=hid hb1;clear ho hb1;go_wp2;go_ret;exact⟨_,rfl,O.out,B.out⟩
theorem rshare_any(v:Value)(c:List Int)(n r:Int)(w:World)(hv:IntsAt w v c)(hc:Cvl c)(h1:0<=n)(h2:n<=tot c)(hr:1<=r/\r<=4):
  Calls Tryz.prog 176 #[v,.int .i64 n,.int .i64 r] w (GivesR (shareL c n r) w):=by
 have h4:r=1\/r=2\/r=3\/r=4:=by omega
 rcases h4 with rfl|rfl|rfl|rfl
 ·exact ajK v c n 1 w hv hc h1 (by have:=hc.tot;omega) rfl rfl rfl
 ·exact ajL v c n w hv hc h1 h2
 ·exact ajM v c n w hv hc h1 h2
 exact ajN v c n w hv hc h1 h2
theorem afG(v:Value)(c:List Int)(n r:Int)(w:World)(hv:IntsAt w v c):
  Calls Tryz.prog 131 #[v,.int .i64 n,.int .i64 r] w (a9x c n r w):=by
 by_cases h0:shareE c n r=0
 ·obtain⟨ha,h1,h2⟩:=a4Y h0;obtain⟨hc,h3,h4⟩:=a4C ha;have S:=hid (rshare_any v c n r w hv hc h3 h4 ⟨h1,h2⟩);have R:=hid (a9z v c n r w hv);have E:=hid h0;have V:Hid (a0J c n r=shareL c n r):=hid (by unfold a0J;rw[if_pos h0]);clear hv hc h0 ha;go_enter Tryz.func131,Tryz.ntmps131;go_wp2_with fail
  refine R.out.mono ?_;rintro e w' ⟨rfl,rfl⟩;rw[E.out];go_wp2_with fail
  refine S.out.mono ?_;rintro e w1 ⟨v1,rfl,ho,hb⟩;have O:=hid ho;have B:=hid hb;clear ho hb;go_wp2;go_ret2;exact⟨_,by rw[E.out];rfl,by rw[V.out];exact O.out,B.out⟩
 have R:=hid (a9z v c n r w hv);have hb:(shareE c n r != 0)=true:=by rw[bne_iff_ne];exact h0
 have V:Hid (a0J c n r=[]):=hid (by unfold a0J;rw[if_neg h0]);clear hv h0;go_enter Tryz.func131,Tryz.ntmps131;go_wp2_with fail
 refine R.out.mono ?_;rintro e w' ⟨rfl,rfl⟩;go_wp2;go_ret2;exact⟨.slice none 0 0,rfl,by rw[V.out];exact OwnR.nil _ _,apC _ _⟩
theorem a9A(c:List Int)(n r:Int):(a0J c n r).length<=9223372036854775807:=by
 unfold a0J;split
 ·rename_i h
  obtain⟨ha,h1,h2⟩:=a4Y h;obtain⟨hc,h3,h4⟩:=a4C ha;obtain⟨f,Q,S⟩:=hc.shr r h3 h4;rw[S.aw,alN];have:=hc.hi;omega
 simp
end Go.Proofs.YtdfkaijeppdhaaaGreatDoor.Fd
namespace Go.Proofs.YtdfkaijeppdhaaaGreatDoor.Fd
theorem apb{x f Q:Int}(hQ:1<=Q)(h0:0<=f)(h1:f<=x * Q):1<=(red f Q).2/\(red f Q).2<=Q/\0<=(red f Q).1/\(red f Q).1<=x * (red f Q).2:=by
 have a:=a7u hQ h0;have b:=a9w (n:=f) (d:=Q) (B:=f) hQ (by omega) (am4 _);have c:=(apa (n:=f) (d:=Q) (m:=x) (k:=1) hQ).2 (by omega)
 omega
def ao4(c:List Int)(e:Int):Int:=(a0h (c.mergeSort (fun a b=>decide (a<=b))) e).1
def anJ(c:List Int)(e:Int):Int:=(a0h (c.mergeSort (fun a b=>decide (a<=b))) e).2
theorem a8f(c:List Int)(e:Int):1<=anJ c e:=a8e _ _
theorem a9B{c:List Int}{e:Int}(h0:c≠[])(hs:e<=tot c):IsLev c e (ao4 c e) (anJ c e):=aa3 e h0 hs
theorem a8g(c:List Int)(e:Int):eqW c e=c.map fun x=>red (cap (ao4 c e) (anJ c e) x) (anJ c e):=rfl
theorem a3U{c:List Int}{e:Int}(hc:∀x∈c,0<=x)(he:0<=e):0<=ao4 c e/\anJ c e<=c.length+1:=by
 have hp:=a47 c;have hb:=a7b (c.mergeSort (fun a b=>decide (a<=b))) e (fun x hx=>hc x (hp.mem_iff.1 hx)) he;have hl:=hp.length_eq;unfold ao4 anJ;omega
def frF(c:List Int)(e r x:Int):Int:=
 if r=1 then x * e else if r=2 then cap (ao4 c e) (anJ c e) x else if r=3 then x * anJ c (tot c-e)-cap (ao4 c (tot c-e)) (anJ c (tot c-e)) x
 else if 2 * e>tot c then x * (2 * anJ c (2 * (tot c-e)))-cap (ao4 c (2 * (tot c-e))) (anJ c (2 * (tot c-e))) x else cap (ao4 c (2 * e)) (anJ c (2 * e)) x
def frQ(c:List Int)(e r:Int):Int:=
 if r=1 then max 1 (tot c)else if r=2 then anJ c e else if r=3 then anJ c (tot c-e)
 else if 2 * e>tot c then 2 * anJ c (2 * (tot c-e))else 2 * anJ c (2 * e)
theorem afH(c:List Int)(e r:Int):shareL c e r=c.map fun x=>red (frF c e r x) (frQ c e r):=by
 have h2:=a8f c (tot c-e);have h3:=a8f c (2 * (tot c-e));have h4:=a8f c (2 * e);unfold shareL frF frQ;split
 ·rfl
 split
 ·rfl
 split
 ·rw[a8g,a65 c _ h2]
 split
 ·rw[a8g,a67 c _ h3,a65 c _ (by omega)]
 rw[a8g,a67 c _ h4]
theorem fr_1(c:List Int)(e:Int):frF c e 1=(fun x=>x * e)/\frQ c e 1=max 1 (tot c):=⟨by funext x;rfl,rfl⟩
theorem fr_2(c:List Int)(e:Int):frF c e 2=cap (ao4 c e) (anJ c e)/\frQ c e 2=anJ c e:=⟨by funext x;rfl,rfl⟩
theorem fr_3(c:List Int)(e:Int):frF c e 3=(fun x=>x * anJ c (tot c-e)-cap (ao4 c (tot c-e)) (anJ c (tot c-e)) x)/\frQ c e 3=anJ c (tot c-e):=⟨by funext x;rfl,rfl⟩
theorem apv(c:List Int)(e:Int)(h:tot c<2 * e):frF c e 4=(fun x=>x * (2 * anJ c (2 * (tot c-e)))-cap (ao4 c (2 * (tot c-e))) (anJ c (2 * (tot c-e))) x)/\frQ c e 4=2 * anJ c (2 * (tot c-e)):=
 ⟨by funext x;unfold frF;rw[if_neg (by omega),if_neg (by omega),if_neg (by omega),if_pos h],by unfold frQ;rw[if_neg (by omega),if_neg (by omega),if_neg (by omega),if_pos h]⟩
theorem apw(c:List Int)(e:Int)(h:¬tot c<2 * e):frF c e 4=cap (ao4 c (2 * e)) (anJ c (2 * e))/\frQ c e 4=2 * anJ c (2 * e):=
 ⟨by funext x;unfold frF;rw[if_neg (by omega),if_neg (by omega),if_neg (by omega),if_neg h],by unfold frQ;rw[if_neg (by omega),if_neg (by omega),if_neg (by omega),if_neg h]⟩
theorem afI{c:List Int}{e r:Int}(h0:c≠[])(hc:∀x∈c,0<=x)(hn:c.length<=8)(ht:tot c<=8000)(he:0<=e)(hs:e<=tot c)(hr:1<=r/\r<=4):Shr c e (shareL c e r) (frF c e r) (frQ c e r):=by
 have hF:=afH c e r;have h4:r=1\/r=2\/r=3\/r=4:=by omega
 rcases h4 with rfl|rfl|rfl|rfl
 ·obtain⟨e1,e2⟩:=fr_1 c e;rw[e1,e2]at hF⊢;refine⟨by omega,by omega,hF,?_,fun x hx=>amw (hc x hx) he,fun x hx=>?_,fun x hx y hy hxy=>?_⟩
  ·rw[a2t,amG e];by_cases h:1<=tot c
   ·rw[Int.max_eq_right h]
   have:e=0:=by omega
   rw[this];simp
  ·exact ams (by omega) (hc x hx)
  refine⟨alD hxy he,?_⟩;rw[<-Int.mul_sub,<-Int.mul_sub];exact alD hxy (by omega)
 ·obtain⟨e1,e2⟩:=fr_2 c e;rw[e1,e2]at hF⊢;have hl:=a9B h0 hs;obtain⟨hp,hq9⟩:=a3U hc he;have hq:=hl.hq;exact⟨hq,by omega,hF,hl.sum,fun x hx=>(a0i hq hp (hc x hx) (am4 x)).1,fun x hx=>(a0i hq hp (hc x hx) (am4 x)).2.1,fun x hx y _ hxy=>(a0i hq hp (hc x hx) hxy).2.2⟩
 ·obtain⟨e1,e2⟩:=fr_3 c e;rw[e1,e2]at hF⊢;have hl:=a9B (e:=tot c-e) h0 (by omega);obtain⟨hp,hq9⟩:=a3U (e:=tot c-e) hc (by omega);have hq:=hl.hq;generalize ao4 c (tot c-e)=p at *;generalize anJ c (tot c-e)=q at *;refine⟨hq,by omega,hF,?_,fun x hx=>?_,fun x hx=>?_,fun x hx y _ hxy=>?_⟩
  ·rw[a4B,a2t,hl.sum,an6];omega
  ·have:=(a0i hq hp (hc x hx) (am4 x)).2.1;omega
  ·have:=(a0i hq hp (hc x hx) (am4 x)).1;omega
  have:=(a0i hq hp (hc x hx) hxy).2.2
  have h2:x * q<=y * q:=alD hxy (by omega);omega
 by_cases h2e:tot c<2 * e
 ·obtain⟨e1,e2⟩:=apv c e h2e;rw[e1,e2]at hF⊢;have hl:=a9B (e:=2 * (tot c-e)) h0 (by omega);obtain⟨hp,hq9⟩:=a3U (e:=2 * (tot c-e)) hc (by omega);have hq:=hl.hq;generalize ao4 c (2 * (tot c-e))=p at *;generalize anJ c (2 * (tot c-e))=q at *;refine⟨by omega,by omega,hF,?_,fun x hx=>?_,fun x hx=>?_,fun x hx y _ hxy=>?_⟩
  ·rw[a4B,a2t,hl.sum,alO (tot c) 2 q,alO e 2 q,amB,an6];omega
  ·have:=(a0i hq hp (hc x hx) (am4 x)).2.1
   have h1:0<=x * q:=amw (hc x hx) (by omega);rw[alO];omega
  ·have:=(a0i hq hp (hc x hx) (am4 x)).1;omega
  have:=(a0i hq hp (hc x hx) hxy).2.2
  have h2:x * q<=y * q:=alD hxy (by omega);rw[alO x,alO y];omega
 obtain⟨e1,e2⟩:=apw c e h2e;rw[e1,e2]at hF⊢;have hl:=a9B (e:=2 * e) h0 (by omega);obtain⟨hp,hq9⟩:=a3U (e:=2 * e) hc (by omega);have hq:=hl.hq;generalize ao4 c (2 * e)=p at *;generalize anJ c (2 * e)=q at *;refine⟨by omega,by omega,hF,?_,fun x hx=>(a0i hq hp (hc x hx) (am4 x)).1,fun x hx=>?_,fun x hx y _ hxy=>?_⟩
 ·rw[hl.sum,alO e 2 q,amB]
 ·have:=(a0i hq hp (hc x hx) (am4 x)).2.1
  have h1:0<=x * q:=amw (hc x hx) (by omega);rw[alO];omega
 have:=(a0i hq hp (hc x hx) hxy).2.2
 have h2:x * q<=y * q:=alD hxy (by omega);rw[alO x,alO y];omega
end Go.Proofs.YtdfkaijeppdhaaaGreatDoor.Fd
