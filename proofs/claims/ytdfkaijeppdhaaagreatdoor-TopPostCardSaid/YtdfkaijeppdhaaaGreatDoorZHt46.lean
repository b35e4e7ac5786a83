/- Part of the proof. -/
import Derived.Test.YtdfkaijeppdhaaaGreatDoorZHt45
set_option maxRecDepth 100000
set_option maxHeartbeats 8000000
set_option linter.unusedSimpArgs false
set_option linter.unusedVariables false

namespace Go.Proofs.YtdfkaijeppdhaaaGreatDoor
open Go.RowKit Go.Shelf
theorem Sys.joined{bs:Nat->anl}(h:Sys bs){j k:Nat}(hj:j<3)(hk:k<3):a0x (bs j) (bs k)=(0,a1u (bs j) (bs k)):=by
 unfold a0x;rw[(aey (h.under hj) (h.under hk)).1]
theorem aiz{b c:anl}(h:BookEq b c)(d:anl):(a0x b d).1=(a0x c d).1/\BookEq (a0x b d).2 (a0x c d).2:=by
 have hc:(anx (b 0) (d 0)&&anx (b 1) (d 1)&&anx (b 2) (d 2)&&anx (b 3) (d 3))=(anx (c 0) (d 0)&&anx (c 1) (d 1)&&anx (c 2) (d 2)&&anx (c 3) (d 3)):=by
  rw[h 0 (by omega),h 1 (by omega),h 2 (by omega),h 3 (by omega)]
 unfold a0x a2v;rw[hc];by_cases hd:(anx (c 0) (d 0)&&anx (c 1) (d 1)&&anx (c 2) (d 2)&&anx (c 3) (d 3))=true
 ·rw[if_pos hd,if_pos hd];exact⟨rfl,fun i hi=>by show a0N (b i) (d i)=a0N (c i) (d i);rw[h i hi]⟩
 rw[if_neg hd,if_neg hd];exact⟨rfl,h⟩
theorem heard{bs cs:Nat->anl}(hs:Sys cs)(he:∀i,i<3->BookEq (bs i) (cs i)){j k:Nat}(hj:j<3)(hk:k<3):(a3V (bs j) (a0F (bs k))).1=0/\BookEq (a3V (bs j) (a0F (bs k))).2 (a1u (cs j) (cs k)):=by
 have hok:a02 (bs k):=(he k hk).symm.ok (hs.ok k hk)
 obtain⟨d,h1,h2⟩:=agr hok;have h3:=akg (bs j) (h2.trans (he k hk));have h4:=aiz (he j hj) (cs k);rw[hs.joined hj hk]at h4;unfold a3V;rw[h1];exact⟨h3.1.trans h4.1,h3.2.trans h4.2⟩
theorem age(bs:Nat->anl)(r:Nat){j:Nat}(hj:j<3):a0y bs (3 * r+(j+1))=upN (a0y bs (3 * r+j)) j (a1u (a0y bs (3 * r+j) j) (a0y bs (3 * r+j) ((j+1) % 3))):=by
 have h1:(3 * r+j) % 3=j:=by omega
 have h2:(3 * r+j+1) % 3=(j+1) % 3:=by omega
 have h:a0y bs (3 * r+j+1)=setP (a0y bs (3 * r+j)) ((3 * r+j) % 3) (a1u (a0y bs (3 * r+j) ((3 * r+j) % 3)) (a0y bs (3 * r+j) ((3 * r+j+1) % 3))):=rfl;rw[h1,h2]at h;exact h
def ArrTo3(w:World)(g:Nat)(t:TypeId)(a:Nat)(P:Nat->Nat):Prop:=w.heap[g]? =some (.cells #[pv a P 0,pv a P 1,pv a P 2] t (0,0))
section
variable{w w':World}{g:Nat}{t:TypeId}{a:Nat}{P:Nat->Nat}
theorem ArrTo3.cell(h:ArrTo3 w g t a P){j:Nat}(hj:j<3):w.cell? ⟨g,j,none⟩=some (pv a P j):=by
 rcases (show j=0\/j=1\/j=2 by omega)with rfl|rfl|rfl<;>exact heap_cell h rfl
theorem ArrTo3.ptr(h:ArrTo3 w g t 3 P){j:Nat}(hj:j<3):w.cell? ⟨g,j,none⟩=some (.pointer (some ⟨P j,0,none⟩)):=by
 have h1:=h.cell hj;unfold pv at h1;rwa[if_pos hj]at h1
theorem ArrTo3.frozen(h:ArrTo3 w g t a P)(j:Nat):w.frozen? ⟨g,j,none⟩=false:=by
 have h9:w.heap[g]? =_:=h;simp[World.frozen?,h9]
theorem ArrTo3.set(h:ArrTo3 w g t a P)(ha:a<3)(x:Nat):ArrTo3 (w.setCell ⟨g,a,none⟩ (.pointer (some ⟨x,0,none⟩))) g t (a+1) (upN P a x):=by
 unfold ArrTo3;rw[a0d h];congr 1;unfold pv upN;rcases (show a=0\/a=1\/a=2 by omega)with rfl|rfl|rfl<;>simp
theorem ArrTo3.keep(h:ArrTo3 w g t a P)(hk:w'.heap[g]? =w.heap[g]?):ArrTo3 w' g t a P:=hk.trans h
theorem ArrTo3.lt(h:ArrTo3 w g t a P):g<w.heap.size:=(alx.1 h).1
end
theorem aiA:¬a2b 83:=by unfold a2b a2U;decide
theorem aiB:¬a2b 84:=by unfold a2b a2U;decide
structure ArS(base ga gb a:Nat)(P:Nat->Nat)(b:Nat)(R:Nat->Nat)(w0 wr:World):Prop where
 arrP:ArrTo3 wr ga 83 a P
 arrR:ArrTo3 wr gb 84 b R
 bel:Below base w0 wr
 low:base<=ga/\base<=gb/\ga≠gb
 size:base<=wr.heap.size
section
variable{base ga gb a b:Nat}{P R:Nat->Nat}{w0 wr w':World}
theorem ArS.more(h:ArS base ga gb a P b R w0 wr)(hb:Below wr.heap.size wr w'):ArS base ga gb a P b R w0 w':=
 ⟨h.arrP.keep (hb.block _ h.arrP.lt),h.arrR.keep (hb.block _ h.arrR.lt),h.bel.trans (hb.mono h.size),h.low,alF h.size hb.size⟩
theorem ArS.setP(h:ArS base ga gb a P b R w0 wr)(ha:a<3)(x:Nat):ArS base ga gb (a+1) (upN P a x) b R w0 (wr.setCell ⟨ga,a,none⟩ (.pointer (some ⟨x,0,none⟩))):=
 ⟨h.arrP.set ha x,h.arrR.keep (a00 (Ne.symm h.low.2.2)),h.bel.setCell (p:=⟨ga,a,none⟩) h.low.1 _,h.low,by rw[apF];exact h.size⟩
theorem ArS.setR(h:ArS base ga gb a P b R w0 wr)(hb:b<3)(x:Nat):ArS base ga gb a P (b+1) (upN R b x) w0 (wr.setCell ⟨gb,b,none⟩ (.pointer (some ⟨x,0,none⟩))):=
 ⟨h.arrP.keep (a00 h.low.2.2),h.arrR.set hb x,h.bel.setCell (p:=⟨gb,b,none⟩) h.low.2.1 _,h.low,by rw[apF];exact h.size⟩
theorem ArS.kid(h:ArS base ga gb a P b R w0 wr)(hk:Kid base wr w'):ArS base ga gb a P b R w0 w':=
 ⟨hk.keep h.arrP aiA,hk.keep h.arrR aiB,h.bel.trans (hk.below h.size),h.low,alF h.size hk.size⟩
theorem ArS.start(w:World):ArS w.heap.size w.heap.size (w.heap.size+1) 0 (fun _=>0) 0 (fun _=>0) ((w.alloc (.cells #[.pointer none,.pointer none,.pointer none] 83)).alloc (.cells #[.pointer none,.pointer none,.pointer none] 84))
  ((w.alloc (.cells #[.pointer none,.pointer none,.pointer none] 83)).alloc (.cells #[.pointer none,.pointer none,.pointer none] 84)):=by
 have h:=World.alloc_heap_new (w.alloc (.cells #[.pointer none,.pointer none,.pointer none] 83)) (.cells #[.pointer none,.pointer none,.pointer none] 84);rw[apG]at h;exact⟨(apD _ _ _ (by simp)).trans (World.alloc_heap_new w _),h,apC _ _,⟨aly _,by omega,by omega⟩,by simp;omega⟩
theorem aiC(w:World)(hV:Vars w):DuoL w.heap.size ((w.alloc (.cells #[.pointer none,.pointer none,.pointer none] 83)).alloc (.cells #[.pointer none,.pointer none,.pointer none] 84)) [w.heap.size+1,w.heap.size] 0 (fun _=>0) idN ao8 0 (fun _=>0) idN ao8:=by
 have h:=((Duo.nil hV (fun _=>0) idN ao8 (fun _=>0) idN ao8).alloc (.cells #[.pointer none,.pointer none,.pointer none] 83)).alloc (.cells #[.pointer none,.pointer none,.pointer none] 84)
 simpa only[apG]using h
end
structure TpI(base ga gb:Nat)(P R:Nat->Nat)(B C:Nat->anl)(w0 wr:World):Prop where
 duo:DuoL base wr [gb,ga] 3 P idN B 3 R idN C
 ar:ArS base ga gb 3 P 3 R w0 wr
section
variable{base ga gb:Nat}{P R:Nat->Nat}{B C B' C':Nat->anl}{w0 wr w':World}
theorem TpI.turn(h:TpI base ga gb P R B C w0 wr)(hd:DuoL base w' [gb,ga] 3 P idN B' 3 R idN C')(hk:Kid base wr w'):TpI base ga gb P R B' C' w0 w':=⟨hd,h.ar.kid hk⟩
theorem TpI.below(h:TpI base ga gb P R B C w0 wr)(hb:Below wr.heap.size wr w'):TpI base ga gb P R B C w0 w':=h.turn (h.duo.below hb) (Kid.of_below hb)
theorem TpI.ff(h:TpI base ga gb P R B C w0 wr){p q:Nat}(hp:p<3)(hq:q<3){bl j:Nat}{v:Value}(hb:bl<base)(hc:wr.cell? ⟨bl,j,none⟩=some v):∀W,KD base wr W->
  W.cell? ⟨ga,p,none⟩=some (.pointer (some ⟨P p,0,none⟩))/\W.cell? ⟨ga,q,none⟩=some (.pointer (some ⟨P q,0,none⟩))/\W.cell? ⟨gb,p,none⟩=some (.pointer (some ⟨R p,0,none⟩))/\W.cell? ⟨gb,q,none⟩=some (.pointer (some ⟨R q,0,none⟩))/\W.cell? ⟨bl,j,none⟩=some v:=fun W hk=>
 ⟨(h.ar.kid hk).arrP.ptr hp,(h.ar.kid hk).arrP.ptr hq,(h.ar.kid hk).arrR.ptr hp,(h.ar.kid hk).arrR.ptr hq,alw hk h.ar.size hb hc⟩
theorem TpI.f4(h:TpI base ga gb P R B C w0 wr){p q:Nat}(hp:p<3)(hq:q<3):∀W,KD base wr W->
  W.cell? ⟨ga,p,none⟩=some (.pointer (some ⟨P p,0,none⟩))/\W.cell? ⟨ga,q,none⟩=some (.pointer (some ⟨P q,0,none⟩))/\W.cell? ⟨gb,p,none⟩=some (.pointer (some ⟨R p,0,none⟩))/\W.cell? ⟨gb,q,none⟩=some (.pointer (some ⟨R q,0,none⟩)):=fun W hk=>
 ⟨(h.ar.kid hk).arrP.ptr hp,(h.ar.kid hk).arrP.ptr hq,(h.ar.kid hk).arrR.ptr hp,(h.ar.kid hk).arrR.ptr hq⟩
end
open Lib (hid)
theorem a9O(k:Nat)(hk:k<=100):(k:Int).tmod 3=((k % 3:Nat):Int)/\IntKind.i64.wrap ((k:Int)+1)=(k:Int)+1/\((k:Int)+1).tmod 3=(((k+1) % 3:Nat):Int):=by
 refine⟨by rw[amT (by omega)];omega,IntWalk.i64_in _ (by omega),by rw[amT (by omega)];omega⟩
theorem TopPost_walk (v v2:Value) (lines:List ByteArray) (n:Int) (qs:List ByteArray) (w:World) (hL:StrsIn w v lines) (_hn:(Lit.int .u32 n).wf=true) (hQ:StrsIn w v2 qs) (hV:Vars w):
  Calls Tryz.prog 14 #[v,.int .u32 n,v2] w (a38 true w):=by
 have HL1:=hid (ac1 v lines 24 w hL);have HL2:=hid (fun W (hW:Below w.heap.size w W)=>ac1 v2 qs 10 W (hQ.below hW));have HV:=hid hV;obtain⟨la,lc,rfl,hc⟩:=hL.at_;obtain⟨qa,qc,rfl,hqc⟩:=hQ.at_;have HLC:=hid hc;have HQC:=hid hqc;clear hL hQ hV hc hqc;cases hlong:a3R lines 24 with
 |true=>
  rw[hlong]at HL1;clear hlong;go_enter Tryz.func14,Tryz.ntmps14;go_wp2_with fail
  refine HL1.out.mono ?_;rintro e w2 ⟨rfl,hb2⟩;have HB2:=hid hb2;have HV2:=hid (HV.out.below hb2);clear hb2;go_wp2_with fail
  refine(a86 w2 HV2.out).mono ?_
  rintro e w3 ⟨rfl,hb3⟩;have HB3:=hid (below_trans HB2.out hb3);clear hb3;go_wp2;go_ret;exact⟨rfl,HB3.out⟩
 | false =>
  rw[hlong]at HL1;obtain⟨hsz,hlen⟩:=ac0 hlong
  have HSZ:=hid (fun k (hk:k<lines.length)=>show (lines.getD k emp).size<=200 by
   rw[abs,alz hk];exact hsz _ (alX hk))
  obtain⟨ln,hln⟩:∃ln,ln=lines.length:=⟨_,rfl⟩
  have HN:=hid hln;rw[<-hln]at hlen HL1⊢;clear hlong hsz hln;cases hlong:a3R qs 10 with
  |true=>
   rw[hlong]at HL2;clear hlong;go_enter Tryz.func14,Tryz.ntmps14;go_wp2_with fail
   refine HL1.out.mono ?_;rintro e w1 ⟨rfl,hb1⟩;have HB1:=hid hb1;clear hb1;go_wp2_with fail
   refine(HL2.out w1 HB1.out).mono ?_
   rintro e w2 ⟨rfl,hb2⟩;have HB2:=hid (below_trans HB1.out hb2);have HV2:=hid (HV.out.below HB2.out);clear hb2;go_wp2_with fail
   refine(a86 w2 HV2.out).mono ?_
   rintro e w3 ⟨rfl,hb3⟩;have HB3:=hid (below_trans HB2.out hb3);clear hb3;go_wp2;go_ret;exact⟨rfl,HB3.out⟩
  | false =>
   rw[hlong]at HL2;obtain⟨hsz,hlen2⟩:=ac0 hlong
   have HSQ:=hid (fun k (hk:k<qs.length)=>show (qs.getD k emp).size<=200 by
    rw[abs,alz hk];exact hsz _ (alX hk))
   obtain⟨qn,hqn⟩:∃qn,qn=qs.length:=⟨_,rfl⟩
   have HQN:=hid hqn;rw[<-hqn]at hlen2 HL2⊢;clear hlong hsz hqn;go_enter Tryz.func14,Tryz.ntmps14;go_wp2_with fail
   refine HL1.out.mono ?_;rintro e w1 ⟨rfl,hb1⟩;have HB1:=hid hb1;clear hb1;go_wp2_with fail
   refine(HL2.out w1 HB1.out).mono ?_
   rintro e w2 ⟨rfl,hb2⟩;have HB2:=hid (below_trans HB1.out hb2);clear hb2 HL1 HL2;obtain⟨wA,hwA⟩:∃wA,wA=(w2.alloc (.cells #[.pointer none,.pointer none,.pointer none] 83)).alloc (.cells #[.pointer none,.pointer none,.pointer none] 84):=⟨_,rfl⟩
   have hda:=aiC w2 (HV.out.below HB2.out);have hsa:=ArS.start w2;have hbA:Below w2.heap.size w2 wA:=by rw[hwA];exact((apC _ _).alloc (aly _) _).alloc (by simp) _
   rw[<-hwA]at hda hsa;obtain⟨base,hbase⟩:∃base,base=w2.heap.size:=⟨_,rfl⟩
   have HBA:Hid (Below w.heap.size w wA):=hid (below_trans HB2.out hbA);have HWB:Hid (w.heap.size<=base):=hid (by rw[hbase];exact HB2.out.size);have HBS:=hid hbase;have HDA:Hid (DuoL base wA [w2.heap.size+1,w2.heap.size] 0 (fun _=>0) idN ao8 0 (fun _=>0) idN ao8):=hid (by rw[hbase];exact hda);have HSA:Hid (ArS base w2.heap.size (w2.heap.size+1) 0 (fun _=>0) 0 (fun _=>0) wA wA):=hid (by rw[hbase];exact hsa);have HWA:=hid hwA;clear hwA hda hsa hbA hbase;go_wp2;rw[<-HWA.out];go_loopw [9] (fun i wr=>∃(k:Nat) (P R:Nat->Nat),k<=3/\i= .int .i64 k/\Hid (DuoL base wr [w2.heap.size+1,w2.heap.size] k P idN ao8 k R idN ao8)/\Hid (ArS base w2.heap.size (w2.heap.size+1) k P k R wA wr)) (fun i _=>3-(intOf i).toNat)
   case atStart=>exact⟨0,_,_,by omega,rfl,HDA,HSA⟩
   case round=>
    obtain⟨k,P,R,hk,rfl,HD,HS⟩:=hrel;by_cases hlt:k<3
    ·have hlt2:(k:Int)<3:=by omega
     have hge:(0:Int)<=(k:Int):=by omega
     have HNW:=hid (apu HD.out (m':=k+1) (i:=k) (fun j hj=>by omega) k (by omega));rw[aoT,aiw]at HNW;go_wp2_with fail
     refine HNW.out.mono ?_;rintro e w5 ⟨P',rfl,hd5,hb5⟩;have HD5:=hid hd5;have HP5:=hid (HS.out.more hb5);have cP:=HP5.out.arrP.cell hlt;have fP:=HP5.out.arrP.frozen k;have cR:=HP5.out.arrR.cell hlt;have fR:=HP5.out.arrR.frozen k;rw[show pv k P k= .pointer none by unfold pv;rw[if_neg (Nat.lt_irrefl k)]]at cP;rw[show pv k R k= .pointer none by unfold pv;rw[if_neg (Nat.lt_irrefl k)]]at cR;have hd5d:=HD5.out.below (apC w5.heap.size w5).drew
     have hp5d:=HP5.out.more (apC w5.heap.size w5).drew
     have HNA:=hid (aht hd5d (r':=k+1) (j:=k) (fun j hj=>by omega) k (by omega));have HPB:=hid (hp5d.setP hlt P');have hd5b:=hd5d.setX (g:=w2.heap.size) (by simp) k (.pointer (some ⟨P',0,none⟩));have HNB:=hid (aht hd5b (r':=k+1) (j:=k) (fun j hj=>by omega) k (by omega));rw[aoT,aiw]at HNA HNB;have HPA:=hid hp5d;clear hd5 hb5 hd5d hd5b hp5d;go_wp2
     go_region_with (first
      |(go_at_call 46;(with_reducible refine HNA.out.mono ?_);rintro e w6 ⟨R',rfl,hd6,hb6⟩;have HD6:=hid hd6;have HQ6:=hid (HPA.out.more hb6);have xP:=HQ6.out.arrP.cell hlt;have yP:=HQ6.out.arrP.frozen k;have xR:=HQ6.out.arrR.cell hlt;have yR:=HQ6.out.arrR.frozen k;clear hd6 hb6)
      |(go_at_call 46;(with_reducible refine HNB.out.mono ?_);rintro e w6 ⟨R',rfl,hd6,hb6⟩;have HD6:=hid hd6;have HQ6:=hid (HPB.out.more hb6);have xR:=HQ6.out.arrR.cell hlt;have yR:=HQ6.out.arrR.frozen k;clear hd6 hb6)
      |fail)
     all_goals
      go_wp2;go_roundw
      case rel=>exact⟨k+1,upN P k P',upN R k R',by omega,by go_num,hid ((HD6.out.setX (g:=w2.heap.size) (by simp) k _).setX (g:=w2.heap.size+1) (by simp) k _),hid ((HQ6.out.setP hlt P').setR hlt R')⟩
      case measure=>simp[intOf];omega
    obtain rfl:k=3:=by omega
    have HI0:Hid (TpI base w2.heap.size (w2.heap.size+1) P R ao8 ao8 wA wr):=hid ⟨HD.out,HS.out⟩;have HY0:Hid (Sys ao8):=hid akq;clear HD HS hk hlt HDA HSA HWA;rw[show ((3:Nat):Int)=3 from rfl];go_wp2;go_loopw [12] (fun i wr=>∃(k:Nat) (B:Nat->anl),k<=ln/\i= .int .i64 k/\Hid (TpI base w2.heap.size (w2.heap.size+1) P R B B wA wr)/\Hid (Sys B)) (fun i _=>ln-(intOf i).toNat)
    case atStart=>exact⟨0,_,alE _,rfl,HI0,HY0⟩
    case round=>
     obtain⟨k,B,hk,rfl,HI,HY⟩:=hrel;by_cases hlt:k<ln
     ·have hlt2:(k:Int)<(ln:Int):=by omega
      have hk0:(0:Int)<=(k:Int):=by omega
      obtain⟨bl,ol,rfl,hcc⟩:=HLC.out (by rw[<-HN.out];omega);have e0:=hcc k (by rw[<-HN.out];exact hlt);have hbl:bl<base:=alJ (World.block_lt_of_cell? _ _ e0) HWB.out;replace e0:=keep_cell (HBA.out.trans (HI.out.ar.bel.mono HWB.out)) e0;have hxs:=HSZ.out k (by rw[<-HN.out];exact hlt);generalize lines.getD k emp=x at *;obtain⟨m1,v1,m2⟩:=a9O k (by omega);have hq:k % 3<3:=amI _ (by omega);have hq2:(k+1) % 3<3:=amI _ (by omega);generalize k % 3=q at *;generalize (k+1) % 3=q2 at *;have i0:(0:Int)<=(q:Int):=by omega
      have i1:(q:Int)<3:=by omega
      have i2:(0:Int)<=(q2:Int):=by omega
      have i3:(q2:Int)<3:=by omega
      have hk32:(k:Int)<32:=by omega
      have hFF:=HI.out.ff hq hq2 hbl e0;clear hcc;have HK0:Hid (KD base wr wr):=hid (KD.refl _ _);cases hbit:(Go.bits BinOp.and IntKind.u32 (n / 2^k) 1==1)
      case' true=>
       have HJO:=hid (ap1 HI.out.duo.drewn (i:=q) (j:=q2) hq hq2);rw[HY.out.joined hq hq2]at HJO;simp only at HJO;go_wp2;refine wp_region_held_drew (S:=KD base wr) (by kernel_rfl) (KD.drew (KD.refl _ _)) (fun hHeld=>?_);refine tk [0,1,2,3,4,5] ?_;repeat (refine tkC hHeld (h:=?_);apply exq;(· intro W3 hS3;obtain⟨z1,z2,z3,z4,z5⟩:=hFF W3 hS3;go_simp;try rfl);try simp only[gS])
       with_reducible refine tkE ?_
       refine rdy 6 (h:=fun K hK=>?_);go_simp;refine(HJO.out).mono ?_
       rintro e w8 ⟨rfl,hd8,hk8⟩;have hk2:=KD.call hHeld hk8;have HD8:=hid hd8;clear hd8 hk8;try dsimp only
       refine hK.out _ _ hk2 (fun hHeld=>?_);clear hK K hk2;try simp only[gS]
       obtain⟨vs,hvs,hrj⟩:=ae5 HD8.out (j:=q) (l:=q2) hq hq2;rw[HY.out.joined hq hq2,decide_eq_true (rfl:(0:Int)=0)]at hrj;have HRJ:=hid hrj;have x1:w8.cell? ⟨R q2,1,none⟩=some (vs 0):=heap_cell hvs.1 rfl;have x2:w8.cell? ⟨R q2,2,none⟩=some (vs 1):=heap_cell hvs.1 rfl;have x3:w8.cell? ⟨R q2,3,none⟩=some (vs 2):=heap_cell hvs.1 rfl;have x4:w8.cell? ⟨R q2,4,none⟩=some (vs 3):=heap_cell hvs.1 rfl;clear hvs hrj HD8 HJO;generalize vs 0=u0 at *;generalize vs 1=u1 at *;generalize vs 2=u2 at *;generalize vs 3=u3 at *;obtain⟨wa,hwa⟩:∃wa,wa=w8:=⟨_,rfl⟩
       subst hwa;refine tk [7,8,9,10,11,12,13,14,15,16] ?_;repeat (refine tkC hHeld (h:=?_);apply exq;(· intro W3 hS3;obtain⟨z1,z2,z3,z4,z5⟩:=hFF W3 hS3;go_simp;try rfl);try simp only[gS])
       with_reducible refine tkE ?_
       refine rdy 17 (h:=fun K hK=>?_);go_simp;refine hK.out _ _ hHeld (fun hHeld=>?_);clear hK K;try simp only[gS]
       refine rdy 18 (h:=fun K hK=>?_);go_simp;refine(HRJ.out).mono ?_
       rintro e w8 ⟨rfl,hd8,hk8⟩;have hk2:=KD.call hHeld hk8;have HD8:=hid hd8;clear hd8 hk8;try dsimp only
       refine hK.out _ _ hk2 (fun hHeld=>?_);clear hK K hk2;try simp only[gS]
       refine tk [19,20] ?_;repeat (refine tkC hHeld (h:=?_);apply exq;(· intro W3 hS3;obtain⟨z1,z2,z3,z4,z5⟩:=hFF W3 hS3;go_simp;try rfl);try simp only[gS])
       with_reducible refine tkE ?_
       refine wpAnyH_done (by kernel_rfl) ?_ _;try simp only[Exit.then]
       have HI9:=hid (HI.out.turn HD8.out hHeld);have HY9:Hid (Sys (upN B q (a1u (B q) (B q2)))):=hid (HY.out.join hq hq2);have HK9:=hid hHeld;generalize upN B q (a1u (B q) (B q2))=B9 at *;clear hHeld HD8 HRJ x1 x2 x3 x4;obtain⟨w9,hw9⟩:∃w9,w9=w8:=⟨_,rfl⟩
       subst hw9
      case' false=>
       obtain⟨B9,hB9⟩:∃B9,B9=B:=⟨_,rfl⟩
       obtain⟨w9,hw9⟩:∃w9,w9=wr:=⟨_,rfl⟩
       have HI9:=hid HI.out;have HY9:=hid HY.out;have HK9:Hid (KD base wr w9):=hid (by rw[hw9];exact KD.refl _ _);rw[<-hB9,<-hw9]at HI9;rw[<-hB9]at HY9;rw[<-hw9];clear hB9 hw9
      all_goals
       have hHeld:=HK9.out;have HDO:=hid (do_d HI9.out.duo.drewn (i:=q) hq x (by omega));obtain⟨r1,hr1⟩:∃r1,r1=doB (B9 q) (idN q) x:=⟨_,rfl⟩
       have HYD:Hid (Sys (upN B9 q r1.2.2)):=hid (by rw[hr1];exact HY9.out.add hq x);rw[<-hr1]at HDO;have HR1:=hid hr1;clear hr1;obtain⟨sa,ea,ba⟩:=r1;simp only at HDO HYD;have hsa:(sa.toList==sa.toList)=true:=by simp
       go_wp2;refine wp_region_held_drew (S:=KD base wr) (by kernel_rfl) (KD.drew hHeld) (fun hHeld=>?_);refine tk [0,1,2,3,4,5,6] ?_;repeat (refine tkC hHeld (h:=?_);apply exq;(· intro W3 hS3;obtain⟨z1,z2,z3,z4,z5⟩:=hFF W3 hS3;go_simp;try rfl);try simp only[gS])
       with_reducible refine tkE ?_
       refine rdy 7 (h:=fun K hK=>?_);go_simp;refine(HDO.out).mono ?_
       rintro e w8 ⟨rfl,hd8,hk8⟩;have hk2:=KD.call hHeld hk8;have HD8:=hid hd8;clear hd8 hk8;try dsimp only
       refine hK.out _ _ hk2 (fun hHeld=>?_);clear hK K hk2;try simp only[gS]
       refine tk [8,9,10,11,12] ?_;repeat (refine tkC hHeld (h:=?_);apply exq;(· intro W3 hS3;obtain⟨z1,z2,z3,z4,z5⟩:=hFF W3 hS3;go_simp;try rfl);try simp only[gS])
       with_reducible refine tkE ?_
       refine wpAnyH_done (by kernel_rfl) ?_ _;try simp only[Exit.then]
       obtain⟨wb,hwb⟩:∃wb,wb=w8:=⟨_,rfl⟩
       subst hwb;clear HDO;have HDO:=hid (apt HD8.out.drewn (j:=q) hq x (by omega));rw[<-HR1.out]at HDO;simp only at HDO;clear HD8;go_wp2;refine wp_region_held_drew (S:=KD base wr) (by kernel_rfl) (KD.drew hHeld) (fun hHeld=>?_);refine tk [0,1,2,3,4,5,6] ?_;repeat (refine tkC hHeld (h:=?_);apply exq;(· intro W3 hS3;obtain⟨z1,z2,z3,z4,z5⟩:=hFF W3 hS3;go_simp;try rfl);try simp only[gS])
       with_reducible refine tkE ?_
       refine rdy 7 (h:=fun K hK=>?_);go_simp;refine(HDO.out).mono ?_
       rintro e w8 ⟨rfl,hd8,hk8⟩;have hk2:=KD.call hHeld hk8;have HD8:=hid hd8;clear hd8 hk8;try dsimp only
       refine hK.out _ _ hk2 (fun hHeld=>?_);clear hK K hk2;try simp only[gS]
       refine tk [8,9,10,11,12] ?_;repeat (refine tkC hHeld (h:=?_);apply exq;(· intro W3 hS3;obtain⟨z1,z2,z3,z4,z5⟩:=hFF W3 hS3;go_simp;try rfl);try simp only[gS])
       with_reducible refine tkE ?_
       refine wpAnyH_done (by kernel_rfl) ?_ _;try simp only[Exit.then]
       have HI10:=hid (HI.out.turn HD8.out hHeld);clear hHeld HD8 HDO hFF;go_wp2;go_roundw
       case rel=>exact⟨k+1,_,by omega,by go_num,HI10,HYD⟩
       case measure=>simp[intOf];omega
     obtain rfl:k=ln:=by omega
     have HI1:Hid (TpI base w2.heap.size (w2.heap.size+1) P R B (a0y B (3 * 0)) wA wr):=hid HI.out;have HE1:Hid (∀i,i<3->BookEq (B i) (a0y B (3 * 0) i)):=hid (fun i _=>BookEq.refl _);clear HI hk hlt HI0 HY0;obtain⟨wl,hwl⟩:∃wl,wl=wr:=⟨_,rfl⟩
     subst hwl;go_wp2;go_loopw [19] (fun i wr=>∃(r:Nat) (B1:Nat->anl),r<=2/\i= .int .i64 r/\Hid (TpI base w2.heap.size (w2.heap.size+1) P R B1 (a0y B (3 * r)) wA wr)/\Hid (∀i,i<3->BookEq (B1 i) (a0y B (3 * r) i))) (fun i _=>2-(intOf i).toNat)
     case atStart=>exact⟨0,_,by omega,rfl,HI1,HE1⟩
     case round=>
      obtain⟨r,B1,hr,rfl,HI,HE⟩:=hrel;by_cases hlt:r<2
      ·have hlt2:(r:Int)<2:=by omega
       obtain⟨wo,hwo⟩:∃wo,wo=wr:=⟨_,rfl⟩
       subst hwo;go_wp2;go_loopw [20] (fun i wr=>∃(j:Nat) (B2:Nat->anl),j<=3/\i= .int .i64 j/\Hid (TpI base w2.heap.size (w2.heap.size+1) P R B2 (a0y B (3 * r+j)) wA wr)/\Hid (∀i,i<3->BookEq (B2 i) (a0y B (3 * r+j) i))) (fun i _=>3-(intOf i).toNat)
       case atStart=>exact⟨0,_,by omega,rfl,HI,HE⟩
       case round=>
        obtain⟨j,B2,hj,rfl,HI2,HE2⟩:=hrel;by_cases hjl:j<3
        ·have hjl2:(j:Int)<3:=by omega
         have i0:(0:Int)<=(j:Int):=by omega
         obtain⟨_,v1,m2⟩:=a9O j (by omega);have hq2:(j+1) % 3<3:=amI _ (by omega);have HHL:Hid (a0y B (3 * r+(j+1))=upN (a0y B (3 * r+j)) j (a1u (a0y B (3 * r+j) j) (a0y B (3 * r+j) ((j+1) % 3)))):=hid (age B r hjl);have HSY:=hid (a2f HY.out (3 * r+j));generalize (j+1) % 3=q2 at *;generalize a0y B (3 * r+j)=C at *;have i2:(0:Int)<=(q2:Int):=by omega
         have i3:(q2:Int)<3:=by omega
         obtain⟨h1,h2⟩:=heard HSY.out HE2.out hjl hq2;have HTS:Hid ((a0F (B2 q2)).size<=4000000000):=hid (alF (agd (HI2.out.duo.ok hq2)) (by omega));have HTX:=hid (ap2 HI2.out.duo.drewn (i:=q2) hq2);generalize a0F (B2 q2)=T at *;obtain⟨H,hH⟩:∃H,H=a3V (B2 j) T:=⟨_,rfl⟩
         rw[<-hH]at h1 h2;have HHV:=hid hH;clear hH;obtain⟨ea,ba⟩:=H;simp only at h1 h2;subst h1;have HEB:=hid h2;clear h2;have hFF:=HI2.out.f4 hjl hq2;go_wp2;refine wp_region_held_drew (S:=KD base wr) (by kernel_rfl) (KD.drew (KD.refl _ _)) (fun hHeld=>?_);refine tk [0,1,2,3,4,5] ?_;repeat (refine tkC hHeld (h:=?_);apply exq;(· intro W3 hS3;obtain⟨z1,z2,z3,z4⟩:=hFF W3 hS3;go_simp;try rfl);try simp only[gS])
         with_reducible refine tkE ?_
         refine rdy 6 (h:=fun K hK=>?_);go_simp;refine(HTX.out).mono ?_
         rintro e wt ⟨rfl,hb⟩;have HB8:=hid hb;have hk2:=KD.call hHeld (Kid.of_below hb);clear hb;try dsimp only
         refine hK.out _ _ hk2 (fun hHeld=>?_);clear hK K hk2;try simp only[gS]
         have HHE:=hid (apq (HI2.out.duo.drewn.below HB8.out) (i:=j) hjl T HTS.out);rw[<-HHV.out]at HHE;simp only at HHE;clear HB8;refine rdy 7 (h:=fun K hK=>?_);go_simp;refine(HHE.out).mono ?_
         rintro e w8 ⟨rfl,hd8,hk8⟩;have hk2:=KD.call hHeld hk8;have HD8:=hid hd8;clear hd8 hk8;try dsimp only
         refine hK.out _ _ hk2 (fun hHeld=>?_);clear hK K hk2;try simp only[gS]
         obtain⟨vs,hvs,hrj⟩:=ae5 HD8.out (j:=j) (l:=q2) hjl hq2;rw[HSY.out.joined hjl hq2,decide_eq_true (rfl:(0:Int)=0)]at hrj;have HRJ:=hid hrj;have x1:w8.cell? ⟨R q2,1,none⟩=some (vs 0):=heap_cell hvs.1 rfl;have x2:w8.cell? ⟨R q2,2,none⟩=some (vs 1):=heap_cell hvs.1 rfl;have x3:w8.cell? ⟨R q2,3,none⟩=some (vs 2):=heap_cell hvs.1 rfl;have x4:w8.cell? ⟨R q2,4,none⟩=some (vs 3):=heap_cell hvs.1 rfl;clear hvs hrj HD8 HHE HTX;generalize vs 0=u0 at *;generalize vs 1=u1 at *;generalize vs 2=u2 at *;generalize vs 3=u3 at *;obtain⟨wa,hwa⟩:∃wa,wa=w8:=⟨_,rfl⟩
         subst hwa;refine tk [8,9,10,11,12,13,14,15,16,17] ?_;repeat (refine tkC hHeld (h:=?_);apply exq;(· intro W3 hS3;obtain⟨z1,z2,z3,z4⟩:=hFF W3 hS3;go_simp;try rfl);try simp only[gS])
         with_reducible refine tkE ?_
         refine rdy 18 (h:=fun K hK=>?_);go_simp;refine hK.out _ _ hHeld (fun hHeld=>?_);clear hK K;try simp only[gS]
         refine rdy 19 (h:=fun K hK=>?_);go_simp;refine(HRJ.out).mono ?_
         rintro e w8 ⟨rfl,hd8,hk8⟩;have hk2:=KD.call hHeld hk8;have HD8:=hid hd8;clear hd8 hk8;try dsimp only
         refine hK.out _ _ hk2 (fun hHeld=>?_);clear hK K hk2;try simp only[gS]
         refine tk [20,21] ?_;repeat (refine tkC hHeld (h:=?_);apply exq;(· intro W3 hS3;obtain⟨z1,z2,z3,z4⟩:=hFF W3 hS3;go_simp;try rfl);try simp only[gS])
         with_reducible refine tkE ?_
         refine wpAnyH_done (by kernel_rfl) ?_ _;try simp only[Exit.then]
         have HI9:=hid (HI2.out.turn HD8.out hHeld);simp only at HI9;rw[<-HHL.out]at HI9
         have HE9:Hid (∀i,i<3->BookEq (upN B2 j ba i) (a0y B (3 * r+(j+1)) i)):=hid (fun i hi=>by
          rw[HHL.out];unfold upN;split
          ·exact HEB.out
          exact HE2.out i hi)
         clear hHeld HD8 HRJ hFF x1 x2 x3 x4 HHL;go_wp2;go_roundw
         case rel=>exact⟨j+1,_,by omega,by go_num,HI9,HE9⟩
         case measure=>simp[intOf];omega
        obtain rfl:j=3:=by omega
        rw[show ((3:Nat):Int)=3 from rfl];go_wp2;go_roundw
        case rel=>exact⟨r+1,_,by omega,by go_num,HI2,HE2⟩
        case measure=>simp[intOf];omega
      obtain rfl:r=2:=by omega
      have HA:Hid (∀j k,j<3->k<3->BookEq (B1 j) (B1 k)):=hid (fun j k hj hk=>((HE.out j hj).trans (aiy HY.out hj hk)).trans (HE.out k hk).symm);have HA0:Hid (BookEq (B1 0) (a0y B (3 * 2) 0)):=hid (HE.out 0 (by omega));generalize a0y B (3 * 2)=C at *;obtain⟨wS,hwS⟩:∃wS,wS=wr:=⟨_,rfl⟩
      subst hwS;rw[show ((2:Nat):Int)=2 from rfl];have HF:=hid (fun W (hW:KB wS W)=>(⟨(HI.out.f4 (p:=0) (q:=1) (by omega) (by omega) W (Kid.of_below hW)),(HI.out.f4 (p:=2) (q:=0) (by omega) (by omega) W (Kid.of_below hW))⟩:_/\_));obtain⟨⟨a0,a1,b0,_⟩,a2,_⟩:=HF.out wS (KB.refl _);have HSM:=hid (fun W (hW:KB wS W)=>ahu (HI.out.duo.below hW) (i:=0) (j:=1) (by omega) (by omega));have HSN:=hid (fun W (hW:KB wS W)=>ahu (HI.out.duo.below hW) (i:=1) (j:=2) (by omega) (by omega));have HIS:=hid (fun W (hW:KB wS W)=>is_d (HI.out.duo.below hW) (i:=0) (j:=0) (by omega) (by omega) rfl HA0.out);rw[decide_eq_true (HA.out 0 1 (by omega) (by omega)).text]at HSM;rw[decide_eq_true (HA.out 1 2 (by omega) (by omega)).text]at HSN;go_wp2_with fail
      refine(HSM.out wS (KB.refl _)).mono ?_
      rintro e wx ⟨rfl,hbx⟩;have HBX:=hid (KB.call (KB.refl wS) hbx);obtain⟨⟨c0,c1,d0,_⟩,c2,_⟩:=HF.out wx HBX.out;clear hbx a0 a1 a2 b0;go_wp2_with fail
      refine(HSN.out wx HBX.out).mono ?_
      rintro e wy ⟨rfl,hby⟩;have HBY:=hid (KB.call HBX.out hby);obtain⟨⟨a0,a1,b0,_⟩,a2,_⟩:=HF.out wy HBY.out;clear hby c0 c1 c2 d0;go_wp2_with fail
      refine(HIS.out wy HBY.out).mono ?_
      rintro e wz ⟨rfl,hbz⟩;have HBZ:=hid (KB.call HBY.out hbz);clear hbz a0 a1 a2 b0 HSM HSN HIS;go_wp2;go_loopw [22] (fun i wr=>∃k:Nat,k<=qn/\i= .int .i64 k/\Hid (KB wS wr)) (fun i _=>qn-(intOf i).toNat)
      case atStart=>exact⟨0,alE _,rfl,HBZ⟩
      case round=>
       obtain⟨k,hk,rfl,HB⟩:=hrel;by_cases hkl:k<qn
       ·have hkl2:(k:Int)<(qn:Int):=by omega
        have hk0:(0:Int)<=(k:Int):=by omega
        obtain⟨bl,ol,rfl,hcc⟩:=HQC.out (by rw[<-HQN.out];omega);have e0:=hcc k (by rw[<-HQN.out];exact hkl);have hbl:bl<base:=alJ (World.block_lt_of_cell? _ _ e0) HWB.out;replace e0:=keep_cell (HBA.out.trans (HI.out.ar.bel.mono HWB.out)) e0;have hxs:=HSQ.out k (by rw[<-HQN.out];exact hkl);generalize qs.getD k emp=x at *;have hF1:=HI.out.ff (p:=0) (q:=1) (by omega) (by omega) hbl e0;have hF2:=HI.out.f4 (p:=2) (q:=0) (by omega) (by omega);have hFF:=fun W (hW:KB wS W)=>(⟨(hF1 W (Kid.of_below hW)).1,(hF1 W (Kid.of_below hW)).2.1,(hF2 W (Kid.of_below hW)).1,(hF1 W (Kid.of_below hW)).2.2.1,(hF1 W (Kid.of_below hW)).2.2.2.2⟩:_/\_/\_/\_/\_)
        have HQ0:=hid (fun W (hW:KB wS W)=>agc (HI.out.duo.below hW) (i:=0) (by omega) x (by omega));have HQ1:=hid (fun W (hW:KB wS W)=>agc (HI.out.duo.below hW) (i:=1) (by omega) x (by omega));have HQ2:=hid (fun W (hW:KB wS W)=>agc (HI.out.duo.below hW) (i:=2) (by omega) x (by omega));have HQ3:=hid (fun W (hW:KB wS W)=>app (HI.out.duo.below hW) (j:=0) (by omega) x (by omega));rw[a6c (HA.out 1 0 (by omega) (by omega))]at HQ1;rw[a6c (HA.out 2 0 (by omega) (by omega))]at HQ2;rw[<-a6c HA0.out]at HQ3;generalize ant (B1 0) x=rr at *;obtain⟨sa,ea⟩:=rr;unfold a0s at HQ0 HQ1 HQ2 HQ3;simp only at HQ0 HQ1 HQ2 HQ3;have hsa:(sa.toList==sa.toList)=true:=by simp
        have hHeld:=HB.out;clear hF1 hF2 hcc;go_wp2;refine wp_region_held_drew (S:=KB wS) (by kernel_rfl) (KB.drew hHeld) (fun hHeld=>?_);refine tk [0,1,2,3,4,5] ?_;repeat (refine tkC hHeld (h:=?_);apply exq;(· intro W3 hS3;obtain⟨z1,z2,z3,z4,z5⟩:=hFF W3 hS3;go_simp;try rfl);try simp only[gS])
        with_reducible refine tkE ?_
        refine rdy 6 (h:=fun K hK=>?_);go_simp;refine(HQ0.out _ hHeld).mono ?_
        rintro e wa ⟨rfl,hb⟩;have hk2:=KB.call hHeld hb;clear hb;try dsimp only
        refine hK.out _ _ hk2 (fun hHeld=>?_);clear hK K hk2;try simp only[gS]
        refine tk [7,8,9,10,11] ?_;repeat (refine tkC hHeld (h:=?_);apply exq;(· intro W3 hS3;obtain⟨z1,z2,z3,z4,z5⟩:=hFF W3 hS3;go_simp;try rfl);try simp only[gS])
        with_reducible refine tkE ?_
        refine wpAnyH_done (by kernel_rfl) ?_ _;try simp only[Exit.then]
        go_wp2;refine wp_region_held_drew (S:=KB wS) (by kernel_rfl) (KB.drew hHeld) (fun hHeld=>?_);refine tk [0,1,2,3,4,5] ?_;repeat (refine tkC hHeld (h:=?_);apply exq;(· intro W3 hS3;obtain⟨z1,z2,z3,z4,z5⟩:=hFF W3 hS3;go_simp;try rfl);try simp only[gS])
        with_reducible refine tkE ?_
        refine rdy 6 (h:=fun K hK=>?_);go_simp;refine(HQ1.out _ hHeld).mono ?_
        rintro e wb ⟨rfl,hb⟩;have hk2:=KB.call hHeld hb;clear hb;try dsimp only
        refine hK.out _ _ hk2 (fun hHeld=>?_);clear hK K hk2;try simp only[gS]
        refine tk [7,8,9,10,11] ?_;repeat (refine tkC hHeld (h:=?_);apply exq;(· intro W3 hS3;obtain⟨z1,z2,z3,z4,z5⟩:=hFF W3 hS3;go_simp;try rfl);try simp only[gS])
        with_reducible refine tkE ?_
        refine wpAnyH_done (by kernel_rfl) ?_ _;try simp only[Exit.then]
        go_wp2;refine wp_region_held_drew (S:=KB wS) (by kernel_rfl) (KB.drew hHeld) (fun hHeld=>?_);refine tk [0,1,2,3,4,5] ?_;repeat (refine tkC hHeld (h:=?_);apply exq;(· intro W3 hS3;obtain⟨z1,z2,z3,z4,z5⟩:=hFF W3 hS3;go_simp;try rfl);try simp only[gS])
        with_reducible refine tkE ?_
        refine rdy 6 (h:=fun K hK=>?_);go_simp;refine(HQ2.out _ hHeld).mono ?_
        rintro e wc ⟨rfl,hb⟩;have hk2:=KB.call hHeld hb;clear hb;try dsimp only
        refine hK.out _ _ hk2 (fun hHeld=>?_);clear hK K hk2;try simp only[gS]
        refine tk [7,8,9,10,11] ?_;repeat (refine tkC hHeld (h:=?_);apply exq;(· intro W3 hS3;obtain⟨z1,z2,z3,z4,z5⟩:=hFF W3 hS3;go_simp;try rfl);try simp only[gS])
        with_reducible refine tkE ?_
        refine wpAnyH_done (by kernel_rfl) ?_ _;try simp only[Exit.then]
        go_wp2;refine wp_region_held_drew (S:=KB wS) (by kernel_rfl) (KB.drew hHeld) (fun hHeld=>?_);refine tk [0,1,2,3,4,5] ?_;repeat (refine tkC hHeld (h:=?_);apply exq;(· intro W3 hS3;obtain⟨z1,z2,z3,z4,z5⟩:=hFF W3 hS3;go_simp;try rfl);try simp only[gS])
        with_reducible refine tkE ?_
        refine rdy 6 (h:=fun K hK=>?_);go_simp;refine(HQ3.out _ hHeld).mono ?_
        rintro e wd ⟨rfl,hb⟩;have hk2:=KB.call hHeld hb;clear hb;try dsimp only
        refine hK.out _ _ hk2 (fun hHeld=>?_);clear hK K hk2;try simp only[gS]
        refine tk [7,8,9,10,11] ?_;repeat (refine tkC hHeld (h:=?_);apply exq;(· intro W3 hS3;obtain⟨z1,z2,z3,z4,z5⟩:=hFF W3 hS3;go_simp;try rfl);try simp only[gS])
        with_reducible refine tkE ?_
        refine wpAnyH_done (by kernel_rfl) ?_ _;try simp only[Exit.then]
        have HB9:=hid hHeld;clear hHeld hFF HQ0 HQ1 HQ2 HQ3;go_wp2;go_roundw
        case rel=>exact⟨k+1,by omega,by go_num,HB9⟩
        case measure=>simp[intOf];omega
       go_wp2_with fail
       refine(a86 wr (HI.out.duo.vars.below HB.out)).mono ?_
       rintro e w9 ⟨rfl,hb9⟩;have HB9:Hid (Below w.heap.size w w9):=hid (below_trans (HBA.out.trans ((HI.out.ar.bel.mono HWB.out).trans (HB.out.mono (alF HWB.out HI.out.ar.size)))) hb9);clear hb9;go_wp2;go_ret;exact⟨rfl,HB9.out⟩
end Go.Proofs.YtdfkaijeppdhaaaGreatDoor
