/- Texts of this claim, laid together: Rk, Du, St. -/
import Derived.Test.YtdfkaijeppdhaaaGreatDoorZHp28
import Derived.Deep.RegionLaw
import Derived.Deep.RegionHeld3
import Derived.BigQuiet
import Derived.Deep.QuietTactic
import Derived.Test.YtdfkaijeppdhaaaGreatDoorZHp27
import Derived.Test.YtdfkaijeppdhaaaGreatDoorZHp38

set_option maxRecDepth 100000
set_option maxHeartbeats 8000000
set_option linter.unusedSimpArgs false
set_option linter.unusedVariables false

namespace Go.Proofs.YtdfkaijeppdhaaaGreatDoor
open Go.RowKit Go.Shelf
open Lib (hid)
def RfAt(w:World)(P:Nat)(n:Int)(vs:Nat->Value)(b:Book):Prop:=
 w.heap[P]? =some (.cells #[.int .i64 n,vs 0,vs 1,vs 2,vs 3] 54 (0,0))/\∀i,i<4->EntsAt w (vs i) (b i)
theorem RfAt.lt{w:World}{P:Nat}{n:Int}{vs:Nat->Value}{b:Book}(h:RfAt w P n vs b):P<w.heap.size:=(Array.getElem?_eq_some_iff.1 h.1).1
theorem RfAt.below{w w':World}{P:Nat}{n:Int}{vs:Nat->Value}{b:Book}(h:RfAt w P n vs b)(hb:Below w.heap.size w w'):RfAt w' P n vs b:=
 ⟨(hb.block _ h.lt).trans h.1,fun i hi=>(h.2 i hi).below hb⟩
theorem RfAt.cell{w:World}{P:Nat}{n:Int}{vs:Nat->Value}{b:Book}(h:RfAt w P n vs b){i:Nat}(hi:i<4):w.cell? ⟨P,1+i,none⟩=some (vs i):=by
 rcases (show i=0\/i=1\/i=2\/i=3 by omega)with rfl|rfl|rfl|rfl<;>exact heap_cell h.1 rfl
theorem EntsAt.shape{w:World}{v:Value}{l:List Ent}(h:EntsAt w v l):∃a cap,v= .slice a l.length cap:=by
 obtain⟨a,cap,rfl,_⟩:=h;exact⟨a,cap,rfl⟩
theorem EntsAt.entry{w:World}{v:Value}{l:List Ent}(h:EntsAt w v l){k:Nat}(hk:k<l.length):∃g off cap,v= .slice (some ⟨g,off,none⟩) l.length cap/\
  w.cell? ⟨g,off+k * 4,none⟩=some (.int .i64 (a04 (l.getD k noE)))/\w.cell? ⟨g,off+k * 4+1,none⟩=some (.int .i64 (eNum (l.getD k noE)))/\
  w.cell? ⟨g,off+k * 4+2,none⟩=some (.int .i64 (eCnt (l.getD k noE)))/\w.cell? ⟨g,off+k * 4+3,none⟩=some (.string (a05 (l.getD k noE))):=by
 obtain⟨a,cap,rfl,_,h⟩:=h;obtain⟨g,off,rfl,hc⟩:=h (by omega);have hg:l.getD k noE=l[k]:=by rw[List.getD_eq_getElem?_getD,List.getElem?_eq_getElem hk];rfl
 refine⟨g,off,cap,rfl,?_,?_,?_,?_⟩
 ·exact hc k 0 _ (by omega) (by rw[a26 l k 0 hk (by omega),hg];rfl)
 ·exact hc k 1 _ (by omega) (by rw[a26 l k 1 hk (by omega),hg];rfl)
 ·exact hc k 2 _ (by omega) (by rw[a26 l k 2 hk (by omega),hg];rfl)
 exact hc k 3 _ (by omega) (by rw[a26 l k 3 hk (by omega),hg];rfl)
def nxC(b:Book)(nx:Nat->Nat)(i:Nat):Int:=eCnt ((b i).getD (nx i) noE)
def LeastP(b:Book)(nx:Nat->Nat)(k:Nat)(l:Value):Prop:=
 (l= .int .i64 (-1)/\∀j,j<k->(b j).length<=nx j)\/
 ∃m:Nat,m<k/\l= .int .i64 m/\nx m<(b m).length/\∀j,j<k->j≠m->nx j<(b j).length->nxC b nx m<nxC b nx j\/(nxC b nx m=nxC b nx j/\m<j)
structure BkI(w:World)(nx:Nat->Nat)(out:List Ent)(o:Value)(wr:World):Prop where
 row:wr.ownsRow (w.heap.size+1) 43 4 o out.length (rowE out)
 nxt:wr.heap[w.heap.size]? =some (.cells #[.int .i64 (nx 0:Nat),.int .i64 (nx 1:Nat),.int .i64 (nx 2:Nat),.int .i64 (nx 3:Nat)] 34 (0,0))
 below:Below w.heap.size w wr
theorem BkI.cell{w wr:World}{nx:Nat->Nat}{out:List Ent}{o:Value}(h:BkI w nx out o wr){i:Nat}(hi:i<4):wr.cell? ⟨w.heap.size,i,none⟩=some (.int .i64 (nx i:Nat)):=by
 rcases (show i=0\/i=1\/i=2\/i=3 by omega)with rfl|rfl|rfl|rfl<;>exact heap_cell h.nxt rfl
theorem BkI.lt{w wr:World}{nx:Nat->Nat}{out:List Ent}{o:Value}(h:BkI w nx out o wr):w.heap.size<wr.heap.size:=(Array.getElem?_eq_some_iff.1 h.nxt).1
theorem BkI.drewN{w wr:World}{nx:Nat->Nat}{out:List Ent}{o:Value}(h:BkI w nx out o wr)(q:Nat):BkI w nx out o (wr.drewN q):=
 ⟨own_below h.row (a0d (Below.refl wr.heap.size wr) q),h.nxt,a0d h.below q⟩
theorem ajB{X:World}{base b j:Nat}{e:TypeId}{sz:Nat}{v u:Value}{n:Nat}{xs:List Value}(h:X.ownsRow base e sz v n xs)(hb:b<base):(X.setCell ⟨b,j,none⟩ u).ownsRow base e sz v n xs:=by
 refine⟨h.1,?_⟩;rcases h.2 with hn|⟨g,cap,cur,hv,hbg,hg,hrest⟩
 ·exact .inl hn
 exact .inr ⟨g,cap,cur,hv,hbg,(Below.heap_setCell _ _ _ _ (by show g≠b;omega)).trans hg,hrest⟩
theorem BkI.next{w W7:World}{nx:Nat->Nat}{out:List Ent}{v':Value}{m:Nat}(hm:m<4)(hrow:W7.ownsRow (w.heap.size+1) 43 4 v' out.length (rowE out))
  (hnxt:W7.heap[w.heap.size]? =some (.cells #[.int .i64 (nx 0:Nat),.int .i64 (nx 1:Nat),.int .i64 (nx 2:Nat),.int .i64 (nx 3:Nat)] 34 (0,0)))(hb:Below w.heap.size w W7):
  BkI w (a4B nx m (nx m+1)) out v' (W7.setCell ⟨w.heap.size,m,none⟩ (.int .i64 ((nx m:Nat)+1:Int))):=by
 refine⟨ajB hrow (by omega),?_,hb.setCell (p:=⟨w.heap.size,m,none⟩) (Nat.le_refl _) _⟩;rw[a4c hnxt];rcases (show m=0\/m=1\/m=2\/m=3 by omega)with rfl|rfl|rfl|rfl<;>rfl
def slLen:Value->Nat
 | .slice _ n _=>n
 |_=>0
theorem LeastP.skip{b:Book}{nx:Nat->Nat}{k:Nat}{l:Value}(h:LeastP b nx k l)(hk:¬nx k<(b k).length):LeastP b nx (k+1) l:=by
 rcases h with⟨rfl,hall⟩|⟨m,hm,rfl,hml,hmin⟩
 ·refine .inl ⟨rfl,fun j hj=>?_⟩
  by_cases e:j=k
  ·subst e;omega
  exact hall j (by omega)
 refine .inr ⟨m,by omega,rfl,hml,fun j hj hne hl=>?_⟩
 by_cases e:j=k
 ·subst e;exact absurd hl hk
 exact hmin j (by omega) hne hl
theorem LeastP.turn{b:Book}{nx:Nat->Nat}{k m:Nat}(hmin:∀j,j<k->j≠m->nx j<(b j).length->nxC b nx m<nxC b nx j\/(nxC b nx m=nxC b nx j/\m<j))(hk:nx k<(b k).length)(hlt:nxC b nx k<nxC b nx m):LeastP b nx (k+1) (.int .i64 k):=by
 refine .inr ⟨k,by omega,rfl,hk,fun j hj hne hl=>.inl ?_⟩
 by_cases e:j=m
 ·subst e;exact hlt
 rcases hmin j (by omega) e hl with h|h<;>omega
theorem LeastP.stay{b:Book}{nx:Nat->Nat}{k m:Nat}(hm:m<k)(hml:nx m<(b m).length)(hmin:∀j,j<k->j≠m->nx j<(b j).length->nxC b nx m<nxC b nx j\/(nxC b nx m=nxC b nx j/\m<j))(hge:¬nxC b nx k<nxC b nx m):LeastP b nx (k+1) (.int .i64 m):=by
 refine .inr ⟨m,by omega,rfl,hml,fun j hj hne hl=>?_⟩
 by_cases e:j=k
 ·subst e;by_cases e2:nxC b nx m=nxC b nx j
  ·exact .inr ⟨e2,hm⟩
  exact .inl (by omega)
 exact hmin j (by omega) hne hl
theorem aab(P:Nat)(n:Int)(vs:Nat->Value)(b:Book)(w:World)(h:RfAt w P n vs b)(hok:a08 b):
  Calls Tryz.prog 42 #[.pointer (some ⟨P,0,none⟩)] w (a3E (allB b) w):=by
 have HRF:=hid h;have HOK:=hid hok;obtain⟨w2,hw2⟩:∃w2,w2=w.alloc (.cells #[.int .i64 0,.int .i64 0,.int .i64 0,.int .i64 0] 34):=⟨_,rfl⟩
 have HI0:Hid (BkI w (fun _=>0) [] (.slice none 0 0) w2):=hid (by
  rw[hw2];exact⟨World.ownsRow_nil _ _ _ _,World.alloc_heap_new w _,(Below.refl _ w).alloc (Nat.le_refl _) _⟩)
 have HM0:=hid (Mg.start b);have HW2:=hid hw2;clear h hok hw2;go_enter Tryz.func42,Tryz.ntmps42;go_wp2_with fail
 rw[<-HW2.out];go_loopw [3] (fun o wr=>∃nx out,Hid (Mg b nx out)/\Hid (BkI w nx out o wr)) (fun o _=>241-slLen o)
 case atStart=>exact⟨_,_,HM0,HI0⟩
 case round=>
  obtain⟨nx,out,HM,HI⟩:=hrel;have HRW:=hid (HRF.out.below HI.out.below);obtain⟨wo,hwo⟩:∃wo,wo=wr:=⟨_,rfl⟩
  subst hwo;go_wp2_with fail
  go_loopw [5,6] (fun l i wr=>∃k:Nat,k<=4/\i= .int .i64 k/\LeastP b nx k l/\Hid (BkI w nx out u3 wr)) (fun _ i _=>4-(intOf i).toNat)
  case atStart=>exact⟨0,by omega,rfl,.inl ⟨rfl,fun j hj=>by omega⟩,HI⟩
  case round=>
   obtain⟨k,hk,rfl,hls,HI⟩:=hrel;have HLS:=hid hls;by_cases hlt:k<4
   ·have hlt2:(k:Int)<4:=by omega
    have HRI:=hid (HRF.out.below HI.out.below);have c1:=HI.out.cell hlt;have c2:=HRI.out.cell hlt;by_cases hless:nx k<(b k).length
    ·obtain⟨g,off,cap,hv,_,_,c3,_⟩:=(HRI.out.2 k hlt).entry hless
     rw[hv]at c2;obtain⟨x,hx⟩:∃x,x=nxC b nx k:=⟨_,rfl⟩
     rw[show eCnt ((b k).getD (nx k) noE)=x from hx.symm]at c3;obtain⟨len,hlen⟩:∃len,len=(b k).length:=⟨_,rfl⟩
     rw[<-hlen]at c2 hless;obtain⟨p,hp⟩:∃p,p=nx k:=⟨_,rfl⟩
     rw[<-hp]at c1 c3 hless;have hl2:(p:Int)<(len:Int):=by omega
     have HX:=hid hx;have HLN:=hid hlen;have HP:=hid hp;rcases hls with⟨rfl,hall⟩|⟨m,hm,rfl,hml,hmin⟩
     ·have HNX:Hid (LeastP b nx (k+1) (.int .i64 k)):=hid (.inr ⟨k,by omega,rfl,by rw[<-hp,<-hlen];exact hless,fun j hj hne hl=>by
       have:=hall j (by omega);omega⟩)
      clear hall hx hlen hp hless hv HLS;go_wp2;go_quiet (fail)
      have HI2:=hid (HI.out.drewN nq);go_wp2;go_roundw
      case rel=>exact⟨k+1,by omega,by go_num,HNX.out,HI2⟩
      case measure=>simp[intOf];omega
     obtain⟨g2,off2,cap2,hv2,_,_,d3,_⟩:=(HRI.out.2 m (by omega)).entry hml
     have d1:=HI.out.cell (i:=m) (by omega);have d2:=HRI.out.cell (i:=m) (by omega);rw[hv2]at d2;obtain⟨y,hy⟩:∃y,y=nxC b nx m:=⟨_,rfl⟩
     rw[show eCnt ((b m).getD (nx m) noE)=y from hy.symm]at d3;obtain⟨len2,hlen2⟩:∃len,len=(b m).length:=⟨_,rfl⟩
     obtain⟨p2,hp2⟩:∃p,p=nx m:=⟨_,rfl⟩
     have hml2:(p2:Int)<(len2:Int):=by rw[hp2,hlen2];omega
     rw[<-hlen2]at d2;rw[<-hp2]at d1 d3;have hm4:(m:Int)<4:=by omega
     have hm0:¬(m:Int)<0:=by omega
     by_cases hxy:x<y
     ·have HNX:Hid (LeastP b nx (k+1) (.int .i64 k)):=hid (LeastP.turn hmin (by rw[<-hp,<-hlen];exact hless) (by rw[<-hx,<-hy];exact hxy));clear hmin hx hlen hp hless hv HLS hv2 hy hlen2 hp2 hml;go_wp2;go_quiet (fail)
      have HI2:=hid (HI.out.drewN nq);go_wp2;go_roundw
      case rel=>exact⟨k+1,by omega,by go_num,HNX.out,HI2⟩
      case measure=>simp[intOf];omega
     have HNX:Hid (LeastP b nx (k+1) (.int .i64 m)):=hid (LeastP.stay hm hml hmin (by rw[<-hx,<-hy];exact hxy));clear hmin hx hlen hp hless hv HLS hv2 hy hlen2 hp2 hml;go_wp2;go_quiet (fail)
     have HI2:=hid (HI.out.drewN nq);go_wp2;go_roundw
     case rel=>exact⟨k+1,by omega,by go_num,HNX.out,HI2⟩
     case measure=>simp[intOf];omega
    obtain⟨a,cap,hv⟩:=(HRI.out.2 k hlt).shape
    rw[hv]at c2;have HNX:=hid (LeastP.skip hls hless);obtain⟨len,hlen⟩:∃len,len=(b k).length:=⟨_,rfl⟩
    obtain⟨p,hp⟩:∃p,p=nx k:=⟨_,rfl⟩
    have hl2:¬(p:Int)<(len:Int):=by rw[hp,hlen];omega
    have hl3:decide ((p:Int)<(len:Int))=false:=decide_eq_false hl2;have hl4:decide (p<len)=false:=by rw[decide_eq_false];omega
    have hl5:len<=p:=by omega
    rw[<-hlen]at c2;rw[<-hp]at c1;clear hls HLS hv hlen hp hless;go_wp2;go_quiet (fail)
    have HI2:=hid (HI.out.drewN nq);go_wp2;go_roundw
    case rel=>exact⟨k+1,by omega,by go_num,HNX.out,HI2⟩
    case measure=>simp[intOf];omega
   obtain rfl:k=4:=by omega
   clear HLS;rcases hls with⟨rfl,hall⟩|⟨m,hm,rfl,hml,hmin⟩
   ·have HE:Hid (out=allB b):=hid (HM.out.done hall);clear hall;go_wp2;go_ret;refine⟨_,rfl,?_,fun j hj=>?_,HI.out.below⟩
    ·rw[<-HE.out];exact a1z HI.out.row (Nat.zero_le _)
    have:=(HI.out.row.lt j hj).1;omega
   have HMI:=hid hmin;clear hmin;have HRI:=hid (HRF.out.below HI.out.below);obtain⟨g2,off2,cap2,hv2,d4,d5,d3,d6⟩:=(HRI.out.2 m hm).entry hml
   have d1:=HI.out.cell hm;have d2:=HRI.out.cell hm;rw[hv2]at d2;obtain⟨e0,he0⟩:∃e0:Ent,e0=(b m).getD (nx m) noE:=⟨_,rfl⟩
   rw[<-he0]at d4 d5 d3 d6;have HE0:Hid (e0=(b m)[nx m]):=hid (by rw[he0,List.getD_eq_getElem?_getD,List.getElem?_eq_getElem hml];rfl)
   have HMS:Hid (Mg b (a4B nx m (nx m+1)) (out++[e0])):=hid (by
    rw[HE0.out];refine HM.out.step HOK.out hm hml fun j hj hne hl=>?_;have:=HMI.out j hj hne hl;unfold nxC at this;rw[List.getD_eq_getElem?_getD,List.getElem?_eq_getElem hml,List.getD_eq_getElem?_getD,List.getElem?_eq_getElem hl]at this;exact this)
   have HLO:Hid (out.length<240):=hid (by
    have h1:=HMS.out.len;have h2:=HMS.out.le;simp only[List.length_append,List.length_cons,List.length_nil]at h1;have a0:=h2 0 (by omega);have a1:=h2 1 (by omega);have a2:=h2 2 (by omega);have a3:=h2 3 (by omega);have b0:=(HOK.out 0 (by omega)).len;have b1:=(HOK.out 1 (by omega)).len;have b2:=(HOK.out 2 (by omega)).len;have b3:=(HOK.out 3 (by omega)).len
    omega)
   obtain⟨oa,oc,rfl⟩:=a3V HI.out.row;obtain⟨ol,hol⟩:∃ol,ol=out.length:=⟨_,rfl⟩
   obtain⟨len2,hlen2⟩:∃len,len=(b m).length:=⟨_,rfl⟩
   obtain⟨p2,hp2⟩:∃p,p=nx m:=⟨_,rfl⟩
   have hml2:(p2:Int)<(len2:Int):=by rw[hp2,hlen2];omega
   rw[<-hlen2]at d2;rw[<-hp2]at d1 d3 d4 d5 d6;have hm4:(m:Int)<4:=by omega
   have hm0:¬(m:Int)<0:=by omega
   have hp240:p2<60:=by have:=(HOK.out m hm).len;omega
   have HOL:=hid hol;have HP2:=hid hp2;rw[<-hol];clear HE0 hv2 he0 hlen2 hp2 hml hol;obtain⟨W6,hW6⟩:∃W6,W6=(wr.alloc (.cells #[.int .i64 (a04 e0),.int .i64 (eNum e0),.int .i64 (eCnt e0),.string (a05 e0)] 43)).drew:=⟨_,rfl⟩
   have HX6:Hid (Below wr.heap.size wr W6):=hid (by rw[hW6];exact((Below.refl _ _).alloc (Nat.le_refl _) _).drew);have HNW:Hid (W6.heap[wr.heap.size]? =some (.cells #[.int .i64 (a04 e0),.int .i64 (eNum e0),.int .i64 (eCnt e0),.string (a05 e0)] 43 (0,0))):=hid (by rw[hW6];exact World.alloc_heap_new wr _);have HRO:Hid (wr.ownsRow (w.heap.size+1) 43 4 (.slice oa ol oc) ol (rowE out)):=hid (by have h9:=HI.out.row;rw[<-HOL.out]at h9;exact h9);have HR6:=hid (own_below HRO.out HX6.out);obtain⟨i0,hi0,hz0,hz1,hz2⟩:=info_parts Tryz.infoEnt;have hone:=a2k [e0];have hnl:(rowE [e0]).length=1 * 4:=by rw[a0K];rfl
   have HAP:Hid (∀ty,∃v' W',(Builtin.append_ #[40,40] ty #[.slice oa ol oc,.slice (some ⟨wr.heap.size,0,none⟩) 1 1]).run Tryz.prog W6= .ok v' W'/\(W'.ownsRow (w.heap.size+1) 43 4 v' (ol+1) (rowE out++rowE [e0])/\W6.grownBy W' (Value.slice oa ol oc).ownBlock)):=hid (fun ty=>by
    have h1:=HLO.out;have h2:=HX6.out.size;have h3:=HI.out.lt;obtain⟨v',W',hrun,hown,hgr,_⟩:=run_append_own (P:=Tryz.prog) (w:=W6) (w.heap.size+1) 40 ty 43 i0 _ 4 40 Tryz.underlying40 hi0 hz0 hz1 hz2 rfl (by decide) _ _ _ HR6.out ⟨wr.heap.size,0,none⟩ 1 1 (rowE [e0]) hnl (a4s HNW.out rfl) hone (by rw[HOL.out];unfold maxLen;omega) (by rw[HOL.out];omega) (by omega);exact⟨v',W',hrun,hown,hgr⟩)
   have HW6:=hid hW6;have HLT:=hid (fun g hg=>HRO.out.lt g hg);clear hW6 hone hnl hi0 hz0 hz1 hz2;go_wp2
   go_region_law (first
    |((rw[<-HW6.out];refine a0v (by rfl) _ _ _ (by rfl) (.slice oa ol oc) (.slice (some ⟨wr.heap.size,0,none⟩) 1 1) (by rfl) (by rfl) (fun v' W'=>W'.ownsRow (w.heap.size+1) 43 4 v' (ol+1) (rowE out++rowE [e0])/\W6.grownBy W' (Value.slice oa ol oc).ownBlock) (HAP.out _) ?_;intro v' W7 hR;have HR:=hid hR;clear hR))
    |fail)
   all_goals
    obtain⟨hrow7,hgr7⟩:=HR.out;have hn7:=(hgr7.block w.heap.size (Nat.lt_of_lt_of_le HI.out.lt HX6.out.size) (fun e=>by have:=(HLT.out _ e.symm).1;omega)).trans ((HX6.out.block w.heap.size HI.out.lt).trans HI.out.nxt)
    have hb7:Below w.heap.size w W7:=(HI.out.below.trans (HX6.out.mono HI.out.below.size)).grown hgr7 (by have:=HI.out.below.size;have:=HX6.out.size;omega) (fun k e=>by have:=(HLT.out k e).1;omega)
    have HI7:Hid (BkI w (a4B nx m (nx m+1)) (out++[e0]) v' (W7.setCell ⟨w.heap.size,m,none⟩ (.int .i64 ((p2:Nat)+1:Int)))):=hid (by
     have h9:=BkI.next hm (out:=out++[e0]) (by rw[List.length_append,a1s,List.length_singleton,<-HOL.out];exact hrow7) hn7 hb7;rw[<-HP2.out]at h9⊢;exact h9)
    have c7:W7.cell? ⟨w.heap.size,m,none⟩=some (.int .i64 (p2:Nat)):=by
     rw[HP2.out];rcases (show m=0\/m=1\/m=2\/m=3 by omega)with rfl|rfl|rfl|rfl<;>exact heap_cell hn7 rfl
    have f7:W7.frozen? ⟨w.heap.size,m,none⟩=false:=by simp[World.frozen?,hn7]
    obtain⟨va,vc,rfl⟩:=a3V hrow7;clear hrow7 hgr7 hn7 hb7 d1 d2 d3 d4 d5 d6;go_wp2;go_roundw
    case rel=>exact⟨_,_,HMS,HI7⟩
    case measure=>show 241-(ol+1)<241-out.length;have:=HLO.out;have:=HOL.out;omega
theorem EntsAt.keep{w w':World}{v:Value}{l:List Ent}(h:EntsAt w v l)(hk:0<l.length->∀k,v.ownBlock=some k->w'.heap[k]? =w.heap[k]?):EntsAt w' v l:=by
 obtain⟨a,cap,rfl,hl,h⟩:=h;refine⟨a,cap,rfl,hl,fun h0=>?_⟩;obtain⟨b,off,rfl,hc⟩:=h h0;exact⟨b,off,rfl,fun j c x hcc hx=>(World.cell?_of_block (hk h0 b rfl)).trans (hc j c x hcc hx)⟩
theorem EntsAt.lt{w:World}{v:Value}{l:List Ent}(h:EntsAt w v l)(h0:0<l.length){k:Nat}(hk:v.ownBlock=some k):k<w.heap.size:=by
 obtain⟨g,off,cap,rfl,h1,_⟩:=h.entry (k:=0) h0;have:g=k:=by simpa [Value.ownBlock]using hk
 subst this;rcases Nat.lt_or_ge g w.heap.size with h2|h2
 ·exact h2
 simp[World.cell?,Array.getElem?_eq_none h2]at h1
theorem a6L{W:World}{K:Nat}{a b c d f:Value}{t:TypeId}(h:W.heap[K]? =some (.cells #[a,b,c,d,f] t (0,0)))(i:Nat)(v:Value):(W.setCell ⟨K,i,none⟩ v).heap[K]? =some (.cells (#[a,b,c,d,f].setIfInBounds i v) t (0,0)):=by
 obtain⟨hlt,hk⟩:=Array.getElem?_eq_some_iff.1 h;show (W.heap.modify K _)[K]? =_;rw[Array.getElem?_eq_getElem (by rw[Array.size_modify];exact hlt),Array.getElem_modify_self,hk];simp
def RpAt(w:World)(R n:Nat)(G:List Nat)(b:Book):Prop:=
 ∃vs:Nat->Value,RfAt w R n vs b/\∀i,i<4->0<(b i).length->∀k,(vs i).ownBlock=some k->k∈G
theorem RpAt.lt{w:World}{R n:Nat}{G:List Nat}{b:Book}(h:RpAt w R n G b):R<w.heap.size:=by obtain⟨vs,h1,_⟩:=h;exact h1.lt
theorem RpAt.keep{w w':World}{R n:Nat}{G:List Nat}{b:Book}(h:RpAt w R n G b)(hR:w'.heap[R]? =w.heap[R]?)(hG:∀k∈G,k<w.heap.size->w'.heap[k]? =w.heap[k]?):RpAt w' R n G b:=by
 obtain⟨vs,h1,h2⟩:=h;exact⟨vs,⟨hR.trans h1.1,fun i hi=>(h1.2 i hi).keep fun h0 k hk=>hG k (h2 i hi h0 k hk) ((h1.2 i hi).lt h0 hk)⟩,h2⟩
theorem RpAt.below{w w':World}{R n:Nat}{G:List Nat}{b:Book}(h:RpAt w R n G b)(hb:Below w.heap.size w w'):RpAt w' R n G b:=h.keep (hb.block _ h.lt) fun k _ hk=>hb.block k hk
section
variable{base:Nat}{w w':World}{m r:Nat}{P n R k:Nat->Nat}{B C:Nat->Book}{F G:Nat->List Nat}{X:List Nat}
end
def a6M(b:Book)(w:World)(e:Ending)(w':World):Prop:=∃B,e= .returned (.pointer (some ⟨w.heap.size,0,none⟩))/\SaysAt w' w.heap.size B (a0r (allB b) [])/\Below w.heap.size w w'
theorem aeP{l:List Ent}{k:Nat}(h:k<l.length):a0r (l.take (k+1)) []=(a1c (a0r (l.take k) []) (a05 (l.getD k noE))).2:=by
 rw[List.take_succ_eq_append_getElem h,a8M];rw[List.getD_eq_getElem?_getD,List.getElem?_eq_getElem h];rfl
theorem a2u(l:List Ent)(h:l.length<=1000)(m:ByteArray): -100000000<=a0A (a0r l []) m/\a0A (a0r l []) m<=100000000:=by
 have h1:a0A (a0r l []) m=(a06 l).stk m:=by rw[<-a5G];rfl
 rw[h1];exact a3g l h m
theorem aix(w:World){w2:World}(hb:Below (w.heap.size+1) (w.alloc (.cells #[.slice none 0 0,.slice none 0 0,.slice none 0 0] 124)) w2):SaysAt w2 w.heap.size w2.heap.size []:=by
 have hsz:=hb.size;rw[World.size_alloc]at hsz;exact⟨.slice none 0 0,.slice none 0 0,.slice none 0 0,(hb.block _ (by omega)).trans (World.alloc_heap_new w _),World.ownsRow_nil _ _ _ _,World.ownsRow_nil _ _ _ _,World.ownsRow_nil _ _ _ _,fun g hg=>by simp[Value.ownBlock]at hg,by omega,Nat.le_refl _⟩
theorem aac(P:Nat)(n:Int)(vs:Nat->Value)(b:Book)(w:World)(h:RfAt w P n vs b)(hok:a08 b):
  Calls Tryz.prog 59 #[.pointer (some ⟨P,0,none⟩)] w (a6M b w):=by
 obtain⟨w1,hw1⟩:∃w1,w1=w.alloc (.cells #[.slice none 0 0,.slice none 0 0,.slice none 0 0] 124):=⟨_,rfl⟩
 have HB1:Hid (Below w.heap.size w w1):=hid (by rw[hw1];exact(Below.refl _ w).alloc (Nat.le_refl _) _);have HSZ1:Hid (w1.heap.size=w.heap.size+1):=hid (by rw[hw1,World.size_alloc]);have HBK:=hid (aab P n vs b w1 (h.below HB1.out) hok);have HBD:=hid (fun e (he:e∈allB b)=>a0Z hok he);have hlen:(allB b).length<=240:=by rw[a10];exact a1w hok
 have HW1:=hid hw1;unfold a6M;generalize allB b=l at *;clear h hok hw1;go_enter Tryz.func59,Tryz.ntmps59;go_wp2_with fail
 rw[<-HW1.out];refine HBK.out.mono ?_;rintro e w2 ⟨v,rfl,hl,hhi,hb2⟩;have HN0:Hid (SaysAt w2 w.heap.size w2.heap.size []):=hid (aix w (by rw[HW1.out,World.size_alloc]at hb2;exact hb2));have HE2:=hid (hl.ents (by omega));have HHI:=hid (fun k (hk:v.ownBlock=some k)=>And.intro (hhi k hk) (hl.lt hk));have HB2:=hid (HB1.out.trans (hb2.mono HB1.out.size));obtain⟨a,c,rfl⟩:=own_shape hl;obtain⟨n9,hn⟩:∃n,n=l.length:=⟨_,rfl⟩
 have HN:=hid hn;rw[<-hn]at hlen⊢;clear hn hl hb2 hhi;go_wp2_with fail
 go_loopw [5] (fun i wr=>∃k:Nat,k<=n9/\i= .int .i64 k/\Hid (SaysAt wr w.heap.size w2.heap.size (a0r (l.take k) []))/\Hid (TS w.heap.size w2.heap.size w2 wr)) (fun i _=>n9-(intOf i).toNat)
 case atStart=>exact⟨0,by omega,rfl,HN0,hid (TS.refl _ _ _)⟩
 case round=>
  obtain⟨k,hk,rfl,HS,HT⟩:=hrel;by_cases hlt:k<n9
  ·have hlt2:(k:Int)<(n9:Int):=by omega
   have hkl:k<l.length:=by rw[<-HN.out];exact hlt
   have HEW:Hid (EntsAt wr (.slice a l.length c) l):=hid (HE2.out.keep fun _ g hg=>HT.out.block g (HHI.out g hg).2 (HHI.out g hg).2 (by have h1:=(HHI.out g hg).1;have h2:=HSZ1.out;omega));obtain⟨g,o,cc,hv,_,_,_,p4⟩:=HEW.out.entry hkl;simp only[Value.slice.injEq]at hv;obtain⟨rfl,_,rfl⟩:=hv;have hmem:l.getD k noE∈l:=by rw[List.getD_eq_getElem?_getD,List.getElem?_eq_getElem hkl];exact List.getElem_mem hkl
   have hline:=a5l (HBD.out _ hmem).2.2.2
   rw[<-a03]at hline;have HTK:=hid (aeP hkl)
   have HDD:=hid (a32 w.heap.size w2.heap.size (a0r (l.take k) []) (a05 (l.getD k noE)) (by omega) wr HS.out (by
    have h9:=a1R (l.take k) [];rw[List.length_take]at h9;simp only[List.length_nil]at h9;omega) (a2u _ (by rw[List.length_take];omega)))
   generalize a05 (l.getD k noE)=s at *;clear hmem hline;go_wp2_with fail
   refine HDD.out.mono ?_;rintro e w3 ⟨rfl,hs3,ht3⟩;have HS3:Hid (SaysAt w3 w.heap.size w2.heap.size (a0r (l.take (k+1)) [])):=hid (by rw[HTK.out];exact hs3);have HT3:=hid (HT.out.trans ht3);clear hs3 ht3;go_wp2;go_roundw
   case rel=>exact⟨k+1,by omega,by go_num,HS3,HT3⟩
   case measure=>simp[intOf];omega
  obtain rfl:k=n9:=by omega
  have HTA:Hid (l.take k=l):=hid (List.take_of_length_le (by rw[<-HN.out];exact Nat.le_refl _));go_wp2;go_ret;have h9:=HS.out;rw[HTA.out]at h9;exact⟨_,rfl,h9,HB2.out.trans (HT.out.below (by obtain⟨_,_,_,h8⟩:=h9;exact h8.low) HB2.out.size)⟩
end Go.Proofs.YtdfkaijeppdhaaaGreatDoor
