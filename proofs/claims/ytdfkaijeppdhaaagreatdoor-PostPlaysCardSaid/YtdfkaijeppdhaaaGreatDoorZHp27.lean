/- Texts of this claim, laid together: Fm, Lb, Rg, Rb. -/
import Derived.Test.YtdfkaijeppdhaaaGreatDoorZHp11
import Derived.Test.YtdfkaijeppdhaaaGreatDoorZHp04

set_option maxRecDepth 100000
set_option maxHeartbeats 8000000
set_option linter.unusedSimpArgs false
set_option linter.unusedVariables false

namespace Go.Proofs.YtdfkaijeppdhaaaGreatDoor
open Go.RowKit Go.Shelf
def a5B(outs:List ByteArray)(w:World)(e:Ending)(w':World):Prop:=
 ∃v,e= .returned (.tuple #[v,.int .i64 0])/\w'.ownsRow w.heap.size 9 1 v outs.length (outs.map Value.string)/\Below w.heap.size w w'
theorem a2Y:(9:Nat)≠81/\(9:Nat)≠96/\(9:Nat)≠43:=by decide
theorem a6t:(33:Nat)≠81/\(33:Nat)≠96/\(33:Nat)≠43:=by decide
structure Made(w:World)(k:Nat)(o:Value)(ps:Nat->Pst)(wr:World):Prop where
 row:wr.ownsRow w.heap.size 33 1 o k (ptrs ps k)
 posts:Posts wr k ps
 news:∀j,j<k->(ps j).n=j/\(ps j).b=empB
 below:Below w.heap.size w wr
 fresh:∀j,j<k->∀g∈(ps j).F,w.heap.size<=g
structure Played(askB:Book->ByteArray->ByteArray×Int)(lines:List ByteArray)(w:World)(S k:Nat)(cur:Array Value)(o:Value)(ps:Nat->Pst)(wr:World):Prop where
 row:wr.ownsRow w.heap.size 9 1 o k ((a0p askB lines k).1.map Value.string)
 posts:PostsAt wr S ps
 books:∀j,j<4->(ps j).b=(a0p askB lines k).2 j
 below:Below w.heap.size w wr
 slice:wr.heap[S]? =some (.cells cur 33 (0,0))
 fresh:∀g∈U ps,w.heap.size<=g
theorem Made.next{w:World}{k:Nat}{o:Value}{ps:Nat->Pst}{wr:World}(h:Made w k o ps wr)(hV:∀j,a1p j->j<w.heap.size){w1 w2:World}{p:Pst}{v':Value}{ob:Obj}(hp:PostAt w1 p.P p.F p.n p.b)(hF:a2y wr [] p.F)(hb:Below wr.heap.size wr w1)(hn:p.n=k/\p.b=empB)
  (hrow:w2.ownsRow w.heap.size 33 1 v' (k+1) (ptrs ps k++[.pointer (some ⟨p.P,0,none⟩)]))(hg:(w1.alloc ob).grownBy w2 o.ownBlock):Made w (k+1) v' (setS ps k p) w2:=by
 have hr1:(w1.alloc ob).ownsRow w.heap.size 33 1 o k (ptrs ps k):=own_below h.row (hb.alloc hb.size _)
 have hP1:=h.posts.grow hp hF hb;have hP2:=hP1.below ((Below.refl _ w1).alloc (Nat.le_refl _) ob);have hsz:=h.below.size;have hsz2:=hb.size;refine⟨by rw[afO];exact hrow,hP2.grown hr1 a6t hV hg,fun j hj=>?_,?_,fun j hj g hg2=>?_⟩
 ·by_cases e:j=k
  ·subst e;rw[a0F];exact hn
  rw[a0n _ _ e];exact h.news j (by omega)
 ·exact below_append (h.below.trans (hb.mono hsz)) (by omega) (own_below h.row hb) (Nat.le_refl _) hg
 by_cases e:j=k
 ·subst e;rw[a0F]at hg2;have:=(hF g hg2).resolve_left (by simp)
  omega
 rw[a0n _ _ e]at hg2;exact h.fresh j (by omega) g hg2
theorem Played.next{askB:Book->ByteArray->ByteArray×Int}{lines:List ByteArray}{w:World}{S k:Nat}{cur:Array Value}{o:Value}{ps:Nat->Pst}{wr:World}(h:Played askB lines w S k cur o ps wr)(hV:∀j,a1p j->j<w.heap.size){w1 w1' w2:World}{v':Value}{ob:Obj}
  (hT:Turn wr S ps (a12 askB (fun j=>(ps j).b) (lines.getD k emp)).2 w1)(hb1:Below w1.heap.size w1 w1')
  (hrow:w2.ownsRow w.heap.size 9 1 v' (k+1) ((a0p askB lines k).1.map Value.string++[.string (a1M (a12 askB (fun j=>(ps j).b) (lines.getD k emp)).1)]))(hg:(w1'.alloc ob).grownBy w2 o.ownBlock):∃ps',Played askB lines w S (k+1) cur v' ps' w2:=by
 obtain⟨ps',h1,h2,h3,h4⟩:=(hT.more (hb1.alloc hb1.size ob)).ex
 have hsz:=h.below.size
 have hrx:(w1'.alloc ob).ownsRow w.heap.size 9 1 o k ((a0p askB lines k).1.map Value.string):=a0m h.row fun g hg0=>h4.block g (by have:=h.row.lt g hg0;exact this.2) fun hm=>by
  obtain⟨i,hi,hm⟩:=mem_U.1 hm;exact(h.posts.posts.post i hi).not_own h.row a2Y hm hg0
 have hfr:∀g∈U ps',w.heap.size<=g:=fun g hm=>(h3 g hm).elim (h.fresh g) (fun h9=>Nat.le_trans hsz h9)
 have hbx:Below w.heap.size w (w1'.alloc ob):=h.below.trans (h4.below hsz h.fresh);have hcg:=ack askB h.books (lines.getD k emp);have hS:(w1'.alloc ob).heap[S]? =some (.cells cur 33 (0,0)):=(h4.block S h.posts.lt h.posts.own).trans h.slice
 have hoS:some S≠o.ownBlock:=fun e=>by
  obtain⟨c2,h9⟩:=a5o hrx e.symm;rw[hS]at h9;simp at h9
 have hSg:w2.heap[S]? =(w1'.alloc ob).heap[S]? :=hg.block S (Array.getElem?_eq_some_iff.1 hS).1 hoS
 refine⟨ps',⟨by
  have:(a0p askB lines (k+1)).1=(a0p askB lines k).1++[a1M (a12 askB (fun j=>(ps j).b) (lines.getD k emp)).1]:=by rw[hcg.1];rfl
  rw[this,List.map_append];exact hrow,⟨h1.posts.grown hrx a2Y hV hg,fun j hj=>?_,h1.own,h1.ok,h1.num⟩,fun j hj=>?_,?_,hSg.trans hS,hfr⟩⟩
 ·rw[World.cell?_of_block hSg];exact h1.row j hj
 ·rw[h2 j hj,hcg.2 j hj];rfl
 exact hbx.grown hg (by have:=hbx.size;omega) (fun g e=>(hrx.lt g e).1)
theorem ai6(askB:Book->ByteArray->ByteArray×Int)(hsm:∀b l,0<=(askB b l).2/\(askB b l).2<=1000)(lv:Value)(lines:List ByteArray)(w:World)(hL:StrsAt w lv lines)(hl:lines.length<=100)(hsz:∀x∈lines,x.size<=1000000)(hV:Vars w)
  (hask:∀k,k<lines.length->∀P n F b W,n<4->PostAt W P F n b->a08 b->Vars W->Cmd.askO (a02 (a0z (lines.getD k emp)))=true->Calls Tryz.prog 36 #[.pointer (some ⟨P,0,none⟩),.string (a0z (lines.getD k emp))] W (a0t (askB b (a0z (lines.getD k emp))) W)):
  Calls Tryz.prog 17 #[lv] w (a5B (a0p askB lines lines.length).1 w):=by
 obtain⟨i0,hi0,hz0,hz1,hz2⟩:=info_parts Tryz.infoPtr;obtain⟨i1,hi1,hy0,hy1,hy2⟩:=info_parts Tryz.infoStr;have HV:=Lib.hid hV;have HVL:=Lib.hid (fun j hj=>hV.lt (k:=j) hj);have HASK:=Lib.hid hask;have HSZ:=Lib.hid hsz;obtain⟨la,lcap,rfl,hcap,hcc,hq⟩:=hL;have HQ:=Lib.hid hq;obtain⟨nl,hnl⟩:∃nl,nl=lines.length:=⟨_,rfl⟩
 have HN:=Lib.hid hnl;rw[<-hnl]at hcap hl⊢
 have HLI:Hid (∀k,k<nl->∃b off,la=some ⟨b,off,none⟩/\w.cell? ⟨b,off+k,none⟩=some (.string (lines.getD k emp))):=Lib.hid (fun k hk=>by
  obtain⟨b,off,h1,h2⟩:=hq (by omega);exact⟨b,off,h1,h2 k (by omega)⟩)
 clear hnl hV hask hsz hq;go_enter Tryz.func17,Tryz.ntmps17;go_wp2;go_loopw [4,16] (fun o i wr=>∃(k:Nat) (ps:Nat->Pst),k<=4/\i= .int .i64 k/\Hid (Made w k o ps wr)) (fun _ i _=>4-(intOf i).toNat)
 case atStart=>exact⟨0,fun _=>⟨0,[],0,empB⟩,by omega,rfl,Lib.hid ⟨World.ownsRow_nil _ _ _ _,Posts.nil HV.out _,fun j hj=>by omega,Below.refl _ _,fun j hj=>by omega⟩⟩
 case round=>
  obtain⟨k,ps,hk,rfl,hm⟩:=hrel;by_cases hlt:k<4
  ·have hlt2:(k:Int)<4:=by omega
   have hrow:=hm.out.row;obtain⟨oa,oc,rfl⟩:=own_shape hrow;have hb1:Below wr.heap.size wr ((wr.alloc (.cells #[.slice none 0 0,.slice none 0 0,.slice none 0 0,.slice none 0 0] 96)).alloc (.cells #[.pointer (some ⟨wr.heap.size,0,none⟩),.int .i64 k] 81)):=((Below.refl _ _).alloc (Nat.le_refl _) _).alloc (by simp) _
   have HNP:=Lib.hid (aaA k wr);have HNW:=Lib.hid (acN k hlt wr);have hszr:=hm.out.below.size;clear hrow;go_wp2_with fail
   refine HNW.out.mono ?_;rintro e w1 ⟨rfl,hw1⟩;rw[<-hw1]at hb1 HNP;have HO1:=Lib.hid (own_below hm.out.row hb1);have HB1:=Lib.hid hb1;have hsz2:w.heap.size<=w1.heap.size:=Nat.le_trans hszr hb1.size;clear hw1 hb1;go_wp2_with (at_builtin;refine wpList_append_own _ rfl _ _ 31 rfl w.heap.size 33 i0 (.pointer none) 1 8 Tryz.underlying31 hi0 hz0 hz1 hz2 rfl (by decide) _ _ _ rfl (HO1.out.alloc _) ⟨w1.heap.size,0,none⟩ 1 1 [.pointer (some ⟨wr.heap.size+1,0,none⟩)] rfl rfl ?c1 ?c2 ?c3 ?c4 ?c5 ?_)
   case c1=>exact(a07 _ _ _)
   case c2=>intro u hu;simp at hu;subst hu;rfl
   case c3=>unfold maxLen;omega
   case c4=>omega
   case c5=>simp;omega
   intro v' w2 hown' hgrow _;have HM:=Lib.hid (hm.out.next HVL.out (p:=⟨wr.heap.size+1,[wr.heap.size+1,wr.heap.size],k,empB⟩) HNP.out (fun g hg=>.inr (by simp at hg;omega)) HB1.out ⟨rfl,rfl⟩ hown' hgrow);clear hown' hgrow;go_wp2;go_roundw
   case rel=>exact⟨k+1,_,by omega,by go_num,HM⟩
   case measure=>simp[intOf];omega
  have e:k=4:=by omega
  subst e;rw[show ((4:Nat):Int)=4 from rfl];have hrow:=hm.out.row;obtain⟨S,cap,cur,hos,_,hScur,_⟩:=hrow.2.resolve_left (fun h=>by simp at h);subst hos
  have HP0:Hid (Played askB lines w S 0 cur (.slice none 0 0) ps wr):=Lib.hid (by
   refine⟨World.ownsRow_nil _ _ _ _,⟨hm.out.posts,fun j hj=>?_,fun hmm=>?_,fun j hj=>?_,fun j hj=>(hm.out.news j hj).1⟩,fun j hj=>(hm.out.news j hj).2,hm.out.below,hScur,fun g hg=>?_⟩
   ·have h9:=hrow.cellAt j (by omega);rw[h9,acX ps hj]
   ·obtain⟨i,hi,hmm⟩:=mem_U.1 hmm;exact(hm.out.posts.post i hi).not_own hrow a6t hmm rfl
   ·rw[(hm.out.news j hj).2];exact a8X
   obtain⟨i,hi,hg⟩:=mem_U.1 hg;exact hm.out.fresh i hi g hg)
  clear hrow hScur;go_wp2;obtain⟨wo,hwo⟩:∃wo,wo=wr:=⟨_,rfl⟩
  subst hwo;go_loopw [8,31] (fun o i wr=>∃(k:Nat) (ps:Nat->Pst),k<=nl/\i= .int .i64 k/\Hid (Played askB lines w S k cur o ps wr)) (fun _ i _=>nl-(intOf i).toNat)
  case atStart=>exact⟨0,_,Nat.zero_le _,rfl,HP0⟩
  case round=>
   obtain⟨k,ps,hk,rfl,hp⟩:=hrel;have hrow:=hp.out.row;obtain⟨oa,oc,rfl⟩:=own_shape hrow;clear hrow;by_cases hlt:k<nl
   ·obtain⟨lb,loff,rfl,hc0⟩:=HLI.out k hlt;have hc:=keep_cell hp.out.below hc0;have hxs:=HSZ.out (lines.getD k emp) (by rw[List.getD_eq_getElem?_getD,List.getElem?_eq_getElem (by rw[<-HN.out];exact hlt)];exact List.getElem_mem _);have hszr:=hp.out.below.size;have HD:=Lib.hid (ab0 askB (lines.getD k emp) hxs wr S cap ps hp.out.posts (fun i W hi _ hq hb=>HASK.out k (by rw[<-HN.out];exact hlt) _ i _ _ W hi (by have h9:=(hp.out.posts.below hb).posts.post i hi;rw[hp.out.posts.num i hi]at h9;exact h9) (hp.out.posts.ok i hi) (hp.out.posts.posts.vars.below hb) hq));have HER:=Lib.hid (a9D askB hsm (fun j=>(ps j).b) (lines.getD k emp));have HNXT:=Lib.hid (fun w1 w1' w2 v' ob (hT:Turn wr S ps (a12 askB (fun j=>(ps j).b) (lines.getD k emp)).2 w1) (hb1:Below w1.heap.size w1 w1') hrow hg=>hp.out.next HVL.out (w1:=w1) (w1':=w1') (w2:=w2) (v':=v') (ob:=ob) hT hb1 hrow hg);have hpl:=a2O askB lines k;unfold a7r at HD;generalize lines.getD k emp=x at *;generalize a12 askB (fun j=>(ps j).b) x=r at *;obtain⟨⟨ra,re⟩,rb⟩:=r;simp only at HER;clear hc0;by_cases hz:re=0
    ·subst hz;go_wp2_with fail
     refine HD.out.mono ?_;rintro e w1 ⟨rfl,hT⟩;have HT:=Lib.hid hT
     have HO1:Hid (w1.ownsRow w.heap.size 9 1 (.slice oa k oc) k ((a0p askB lines k).1.map Value.string)):=Lib.hid (by
      obtain⟨ps',h1,h2,h3,h4⟩:=hT.ex
      exact a0m hp.out.row fun g hg0=>h4.block g (hp.out.row.lt g hg0).2 fun hm=>by
       obtain⟨i,hi,hm⟩:=mem_U.1 hm;exact(hp.out.posts.posts.post i hi).not_own hp.out.row a2Y hm hg0)
     have hsz2:w.heap.size<=w1.heap.size:=by obtain⟨ps',h1,h2,h3,h4⟩:=hT.ex;have:=h4.size;omega
     clear hT;go_wp2_with (at_builtin;refine wpList_append_own _ rfl _ _ 22 rfl w.heap.size 9 i1 (.string ⟨#[]⟩) 1 16 Tryz.underlying22 hi1 hy0 hy1 hy2 rfl (by decide) _ _ _ rfl (HO1.out.alloc _) ⟨w1.heap.size,0,none⟩ 1 1 [.string ra] rfl rfl ?c1 ?c2 ?c3 ?c4 ?c5 ?_)
     case c1=>exact(a07 _ _ _)
     case c2=>intro u hu;simp at hu;subst hu;rfl
     case c3=>unfold maxLen;omega
     case c4=>omega
     case c5=>simp;omega
     intro v' w2 hown' hgrow _;have HM:=Lib.hid (HNXT.out _ _ w2 v' _ HT.out (Below.refl _ _) hown' hgrow);obtain⟨psn,h9⟩:=HM.out;have HMN:=Lib.hid h9;clear hown' hgrow HM h9;go_wp2;go_roundw
     case rel=>exact⟨k+1,psn,by omega,by go_num,HMN⟩
     case measure=>simp[intOf];omega
    have z0:(re != 0)=true:=by simpa using hz
    go_wp2_with fail
    refine HD.out.mono ?_;rintro e w1 ⟨rfl,hT⟩;have HV1:Hid (Vars w1):=Lib.hid (by obtain⟨ps',h1,_⟩:=hT.ex;exact h1.posts.vars);have HT:=Lib.hid hT
    have HO1:Hid (w1.ownsRow w.heap.size 9 1 (.slice oa k oc) k ((a0p askB lines k).1.map Value.string)):=Lib.hid (by
     obtain⟨ps',h1,h2,h3,h4⟩:=hT.ex
     exact a0m hp.out.row fun g hg0=>h4.block g (hp.out.row.lt g hg0).2 fun hm=>by
      obtain⟨i,hi,hm⟩:=mem_U.1 hm;exact(hp.out.posts.posts.post i hi).not_own hp.out.row a2Y hm hg0)
    have hsz2:w.heap.size<=w1.heap.size:=by obtain⟨ps',h1,h2,h3,h4⟩:=hT.ex;have:=h4.size;omega
    have HI:=Lib.hid (itoa_any re (by have:=HER.out;omega) (by have:=HER.out;omega) w1 HV1.out);have HPA:Hid (a1M (ra,re)=(⟨#[101,114,114,111,114,32]⟩:ByteArray)++itoaB re):=Lib.hid (by unfold a1M errW;rw[if_neg hz])
    have hadd:¬9223372036854775807<6+(itoaB re).size:=by
     have h9:=a3W (n:=re) HER.out.1 (by have:=HER.out;omega);rw[a03,show (itoaB re).data.toList=Lib.itoa re from rfl];omega
    rw[HPA.out]at HNXT;clear hT;go_wp2_with fail
    refine HI.out.mono ?_;rintro e w3 ⟨rfl,hb3⟩;have HO3:=Lib.hid (own_below HO1.out hb3);have hsz3:w.heap.size<=w3.heap.size:=Nat.le_trans hsz2 hb3.size;have HB3:=Lib.hid hb3;clear hb3;go_wp2_with (at_builtin;refine wpList_append_own _ rfl _ _ 22 rfl w.heap.size 9 i1 (.string ⟨#[]⟩) 1 16 Tryz.underlying22 hi1 hy0 hy1 hy2 rfl (by decide) _ _ _ rfl (HO3.out.alloc _) ⟨w3.heap.size,0,none⟩ 1 1 [.string ((⟨#[101,114,114,111,114,32]⟩:ByteArray)++itoaB re)] rfl rfl ?c1 ?c2 ?c3 ?c4 ?c5 ?_)
    case c1=>exact(a07 _ _ _)
    case c2=>intro u hu;simp at hu;subst hu;rfl
    case c3=>unfold maxLen;omega
    case c4=>omega
    case c5=>simp;omega
    intro v' w2 hown' hgrow _;have HM:=Lib.hid (HNXT.out _ _ w2 v' _ HT.out HB3.out hown' hgrow);obtain⟨psn,h9⟩:=HM.out;have HMN:=Lib.hid h9;clear hown' hgrow HM h9;go_wp2;go_roundw
    case rel=>exact⟨k+1,psn,by omega,by go_num,HMN⟩
    case measure=>simp[intOf];omega
   have e:k=nl:=by omega
   subst e;have HR:=Lib.hid hp.out.row;have HBE:=Lib.hid hp.out.below;have hpl:=a2O askB lines k;go_wp2;go_ret2;exact⟨_,rfl,by rw[hpl];exact HR.out,HBE.out⟩
end Go.Proofs.YtdfkaijeppdhaaaGreatDoor
namespace Go.Proofs.YtdfkaijeppdhaaaGreatDoor
open Go.RowKit Go.Shelf
def StrsW(w:World)(v:Value)(l:List ByteArray):Prop:=∃(a:Option Addr) (cap:Nat),v= .slice a l.length cap/\(0<l.length->∃b off,a=some ⟨b,off,none⟩/\∀j,j<l.length->w.cell? ⟨b,off+j,none⟩=some (.string (l.getD j emp)))
theorem StrsW.below{w w':World}{v:Value}{l:List ByteArray}(h:StrsW w v l)(hb:Below w.heap.size w w'):StrsW w' v l:=by
 obtain⟨a,cap,rfl,h⟩:=h;refine⟨a,cap,rfl,fun h0=>?_⟩;obtain⟨b,off,ha,hc⟩:=h h0;exact⟨b,off,ha,fun j hj=>keep_cell hb (hc j hj)⟩
theorem a6u{base:Nat}{w:World}{v:Value}{l:List ByteArray}(h:w.ownsRow base 9 1 v l.length (l.map Value.string)):StrsW w v l:=by
 rcases h.2 with⟨rfl,h0⟩|⟨g,cap,cur,rfl,hrest⟩
 ·exact⟨none,0,by rw[h0],fun h1=>by omega⟩
 refine⟨some ⟨g,0,none⟩,cap,rfl,fun _=>⟨g,0,rfl,fun j hj=>?_⟩⟩;have:=h.cellAt j (by omega);rw[Nat.zero_add,this,List.getElem?_map,List.getElem?_eq_getElem hj,List.getD_eq_getElem?_getD,List.getElem?_eq_getElem hj];rfl
theorem agr{l m:List ByteArray}{k:Nat}(hl:k<l.length)(hm:k<m.length)(h:l.take k=m.take k)(hx:l.getD k emp=m.getD k emp):l.take (k+1)=m.take (k+1):=by
 rw[List.take_succ_eq_append_getElem hl,List.take_succ_eq_append_getElem hm,h];rw[List.getD_eq_getElem?_getD,List.getD_eq_getElem?_getD,List.getElem?_eq_getElem hl,List.getElem?_eq_getElem hm]at hx;simp at hx;rw[hx]
theorem a6v(v v2:Value)(l m:List ByteArray)(hl6:l.length<=1000000)(w:World)(h:StrsW w v l)(h2:StrsW w v2 m):
  Calls Tryz.prog 19 #[v,v2] w (a5m (decide (l=m)) w):=by
 obtain⟨a,cap,rfl,h⟩:=h;obtain⟨a2,cap2,rfl,h2⟩:=h2;obtain⟨R,hR⟩:∃R,R=decide (l=m):=⟨_,rfl⟩
 have HR:=Lib.hid hR;rw[<-hR];clear hR;by_cases hlen:l.length=m.length
 ·have HC1:=Lib.hid (fun k (hk:k<l.length)=>(h (by omega)));have HC2:=Lib.hid (fun k (hk:k<m.length)=>(h2 (by omega)));have HE:=Lib.hid hlen;rw[hlen];obtain⟨n,hn⟩:∃n,n=m.length:=⟨_,rfl⟩
  have HN:=Lib.hid hn;rw[<-hn];have hn6:n<=1000000:=by omega
  clear h h2 hlen hn;go_enter Tryz.func19,Tryz.ntmps19;go_wp2;go_loopw [5] (fun i wr=>∃k:Nat,k<=n/\i= .int .i64 k/\Hid (l.take k=m.take k)/\Below w.heap.size w wr) (fun i _=>n-(intOf i).toNat)
  case atStart=>exact⟨0,Nat.zero_le _,rfl,Lib.hid rfl,Below.refl _ _⟩
  case round=>
   obtain⟨k,hk,rfl,ht,hb⟩:=hrel;by_cases hlt:k<n
   ·obtain⟨b,off,rfl,hc⟩:=HC1.out k (by rw[HE.out,<-HN.out];exact hlt);obtain⟨b2,off2,rfl,hc2⟩:=HC2.out k (by rw[<-HN.out];exact hlt);have c1:=keep_cell hb (hc k (by rw[HE.out,<-HN.out];exact hlt));have c2:=keep_cell hb (hc2 k (by rw[<-HN.out];exact hlt));have HT:=Lib.hid (fun hx=>agr (l:=l) (m:=m) (k:=k) (by rw[HE.out,<-HN.out];exact hlt) (by rw[<-HN.out];exact hlt) ht.out hx)
    have HX:=Lib.hid (fun(hx:l.getD k emp≠m.getD k emp)=>show R=false by
     rw[HR.out,decide_eq_false];rintro rfl;exact hx rfl)
    have HB:=Lib.hid hb;clear hc hc2 hb;generalize l.getD k emp=x at *;generalize m.getD k emp=y at *;by_cases hxy:x=y
    ·subst hxy;have HTT:=Lib.hid (HT.out rfl);go_wp2;go_quiet (fail)
     go_wp2;go_roundw
     case rel=>exact⟨k+1,by omega,by go_num,HTT,a0d HB.out _⟩
     case measure=>simp[intOf];omega
    have z0:=ba_lne hxy;have HXX:=Lib.hid (HX.out hxy);clear hxy;go_wp2;go_quiet (fail)
    go_wp2;go_ret;rw[HXX.out];exact⟨rfl,a0d HB.out _⟩
   have e:k=n:=by omega
   have HXX:Hid (R=true):=Lib.hid (by
    have h9:=ht.out;rw[e,HN.out]at h9;rw[List.take_length,<-HE.out,List.take_length]at h9;rw[HR.out,h9,decide_eq_true rfl])
   clear e;go_wp2;go_ret;rw[HXX.out];exact⟨rfl,hb⟩
 have HXX:Hid (R=false):=Lib.hid (by rw[HR.out,decide_eq_false];rintro rfl;exact hlen rfl);have z0:¬(l.length:Int)=(m.length:Int):=by omega
 generalize l.length=n1 at *;generalize m.length=n2 at *;clear h h2;go_enter Tryz.func19,Tryz.ntmps19;go_wp2;go_ret;rw[HXX.out];exact⟨rfl,Below.refl _ _⟩
def askT(b:Book)(line:ByteArray):ByteArray×Int:=match a02 line with
 |some (.asked 0 names _)=>a0h a1N names (a06 (allB b))
 |_=>(emp,0)
def saneL:List ByteArray:=[⟨#[48,32,112,117,116,32,97,32,120]⟩,⟨#[49,32,112,117,116,32,97,32,121]⟩,⟨#[48,32,106,111,105,110,32,49]⟩,⟨#[48,32,116,101,120,116,32,97]⟩]
theorem ags:(a0p askT saneL 4).1=[⟨#[120]⟩,⟨#[121]⟩,⟨#[50]⟩,⟨#[121]⟩]:=by kernel_rfl
theorem ai7:∀k,k<4->Cmd.askO (a02 (a0z (saneL.getD k emp)))=true->a02 (a0z (saneL.getD k emp))=some (.asked 0 [⟨#[97]⟩] []):=by
 intro k hk h;rcases (show k=0\/k=1\/k=2\/k=3 by omega)with rfl|rfl|rfl|rfl
 ·exact absurd h (by rw[show Cmd.askO (a02 (a0z (saneL.getD 0 emp)))=false by kernel_rfl];decide)
 ·exact absurd h (by rw[show Cmd.askO (a02 (a0z (saneL.getD 1 emp)))=false by kernel_rfl];decide)
 ·exact absurd h (by rw[show Cmd.askO (a02 (a0z (saneL.getD 2 emp)))=false by kernel_rfl];decide)
 kernel_rfl
theorem aeq(b:Book)(l:ByteArray):0<=(askT b l).2/\(askT b l).2<=1000:=by
 unfold askT;split
 ·unfold a0h a1N;split<;>simp
 simp
theorem a6w(P n:Nat)(F:List Nat)(b:Book)(line:ByteArray)(hs:line.size<=1000000)(w:World)(h:PostAt w P F n b)(hok:a08 b)(hV:Vars w)(names:List ByteArray)(ns:List Int)(hc:a02 line=some (.asked 0 names ns))(h0:0<names.length)(hl:names.length<=1000):
  Calls Tryz.prog 36 #[.pointer (some ⟨P,0,none⟩),.string line] w (a0t (a0h a1N names (a06 (allB b))) w):=
 a3X P n F b line hs w h hok hV 0 names ns hc h0 hl a1N (enters_of Tryz.func116 (by kernel_rfl) rfl) fun W base tv bv ts _ _ hrow _ hts=>by
  have hlen:=allS_len _ _ _ hts;exact afN W base tv bv ts hrow (by omega) (by omega)
theorem a4i(w:World)(hV:Vars w):Calls Tryz.prog 16 #[] w (a5m true w):=by
 obtain⟨w1,hw1⟩:∃w1,w1=w.alloc (.cells #[.string ⟨#[48,32,112,117,116,32,97,32,120]⟩,.string ⟨#[49,32,112,117,116,32,97,32,121]⟩,.string ⟨#[48,32,106,111,105,110,32,49]⟩,.string ⟨#[48,32,116,101,120,116,32,97]⟩] 9):=⟨_,rfl⟩
 have hb1:Below w.heap.size w w1:=by rw[hw1];exact(Below.refl _ _).alloc (Nat.le_refl _) _
 have hc1:w1.heap[w.heap.size]? =some (.cells #[.string ⟨#[48,32,112,117,116,32,97,32,120]⟩,.string ⟨#[49,32,112,117,116,32,97,32,121]⟩,.string ⟨#[48,32,106,111,105,110,32,49]⟩,.string ⟨#[48,32,116,101,120,116,32,97]⟩] 9 (0,0)):=by rw[hw1];exact World.alloc_heap_new w _
 have hL:StrsAt w1 (.slice (some ⟨w.heap.size,0,none⟩) 4 4) saneL:=⟨_,4,rfl,by decide,by omega,fun _=>⟨w.heap.size,0,rfl,fun j hj=>by
  have hj4:j<4:=hj;rcases (show j=0\/j=1\/j=2\/j=3 by omega)with rfl|rfl|rfl|rfl<;>exact heap_cell hc1 rfl⟩⟩
 have HB1:=Lib.hid hb1
 have HPL:=Lib.hid (ai6 askT aeq _ saneL w1 hL (by decide) (fun x hx=>by
  simp only[saneL,List.mem_cons,List.not_mem_nil,or_false]at hx
  rcases hx with rfl|rfl|rfl|rfl<;>decide) (hV.below hb1) (fun k hk P n F b W hn hp hok hv hq=>by
   have h9:=ai7 k hk hq
   have h8:=a6w P n F b _ (by
    have h7:=a9C (saneL.getD k emp)
    have h6:(saneL.getD k emp).size<=100:=by
     have hk4:k<4:=hk;rcases (show k=0\/k=1\/k=2\/k=3 by omega)with rfl|rfl|rfl|rfl<;>decide
    omega) W hp hok hv _ _ h9 (by decide) (by decide)
   rw[show askT b (a0z (saneL.getD k emp))=a0h a1N [⟨#[97]⟩] (a06 (allB b)) by unfold askT;rw[h9];rfl];exact h8))
 rw[show (a0p askT saneL saneL.length).1=[⟨#[120]⟩,⟨#[121]⟩,⟨#[50]⟩,⟨#[121]⟩]from ags]at HPL;have HW1:=Lib.hid hw1;clear hb1 hc1 hL hw1 hV;go_enter Tryz.func16,Tryz.ntmps16;go_wp2_with fail
 rw[<-HW1.out];refine HPL.out.mono ?_;rintro e w2 ⟨v,rfl,hown,hb2⟩;have HB2:=Lib.hid (below_trans HB1.out hb2);obtain⟨w3,hw3⟩:∃w3,w3=w2.alloc (.cells #[.string ⟨#[120]⟩,.string ⟨#[121]⟩,.string ⟨#[50]⟩,.string ⟨#[121]⟩] 9):=⟨_,rfl⟩
 have hb3:Below w2.heap.size w2 w3:=by rw[hw3];exact(Below.refl _ _).alloc (Nat.le_refl _) _
 have hc3:w3.heap[w2.heap.size]? =some (.cells #[.string ⟨#[120]⟩,.string ⟨#[121]⟩,.string ⟨#[50]⟩,.string ⟨#[121]⟩] 9 (0,0)):=by rw[hw3];exact World.alloc_heap_new w2 _
 have HSM:=Lib.hid (a6v v (.slice (some ⟨w2.heap.size,0,none⟩) 4 4) [⟨#[120]⟩,⟨#[121]⟩,⟨#[50]⟩,⟨#[121]⟩] [⟨#[120]⟩,⟨#[121]⟩,⟨#[50]⟩,⟨#[121]⟩] (by decide) w3 ((a6u hown).below hb3) ⟨_,4,rfl,fun _=>⟨w2.heap.size,0,rfl,fun j hj=>by
  have hj4:j<4:=hj;rcases (show j=0\/j=1\/j=2\/j=3 by omega)with rfl|rfl|rfl|rfl<;>exact heap_cell hc3 rfl⟩⟩)
 rw[decide_eq_true rfl]at HSM;have HB3:=Lib.hid (below_trans HB2.out hb3);have HW3:=Lib.hid hw3;clear hown hb2 hb3 hc3 hw3;go_wp2_with fail
 rw[<-HW3.out];refine HSM.out.mono ?_;rintro e w4 ⟨rfl,hb4⟩;have HB4:=Lib.hid (below_trans HB3.out hb4);clear hb4;go_wp2;go_ret;exact⟨rfl,HB4.out⟩
end Go.Proofs.YtdfkaijeppdhaaaGreatDoor
namespace Go.Proofs.YtdfkaijeppdhaaaGreatDoor
open Go.RowKit Go.Shelf
open Lib (hid)
section
variable{base:Nat}{w:World}{m:Nat}{P n:Nat->Nat}{b:Nat->Book}
end
abbrev PB:=Nat×Nat×Book
section
variable{base:Nat}{w:World}{l:List PB}
end
structure StrsIn(w:World)(v:Value)(l:List ByteArray):Prop where
 at_:StrsW w v l
 len:l.length<=maxLen
 sz:∀s∈l,s.size<=maxLen
theorem StrsIn.below{w w':World}{v:Value}{l:List ByteArray}(h:StrsIn w v l)(hb:Below w.heap.size w w'):StrsIn w' v l:=⟨h.at_.below hb,h.len,h.sz⟩
def a3b(l:List ByteArray)(n:Int):Bool:=(l.any fun s=>decide (200<s.size))||decide (n<(l.length:Int))
theorem ai8{l:List ByteArray}{n:Int}(h:a3b l n=false):(∀s∈l,s.size<=200)/\(l.length:Int)<=n:=by
 unfold a3b at h;rw[Bool.or_eq_false_iff,List.any_eq_false,decide_eq_false_iff_not]at h;exact⟨fun s hs=>by have:=h.1 s hs;simpa using this,by omega⟩
theorem agt{l:List ByteArray}(n:Int){k:Nat}(hk:k<l.length)(h:200<(l.getD k emp).size):a3b l n=true:=by
 unfold a3b;rw[Bool.or_eq_true,List.any_eq_true];rw[List.getD_eq_getElem?_getD,List.getElem?_eq_getElem hk]at h;exact .inl ⟨l[k],List.getElem_mem hk,by simpa using h⟩
theorem agu{l:List ByteArray}(n:Int)(h:∀j,j<l.length->(l.getD j emp).size<=200):a3b l n=decide (n<(l.length:Int)):=by
 unfold a3b
 have:(l.any fun s=>decide (200<s.size))=false:=by
  rw[List.any_eq_false];intro s hs;obtain⟨j,hj,rfl⟩:=List.getElem_of_mem hs;have:=h j hj;rw[List.getD_eq_getElem?_getD,List.getElem?_eq_getElem hj]at this;simpa using this
 rw[this,Bool.false_or]
theorem aby(v:Value)(l:List ByteArray)(n:Int)(w:World)(hin:StrsIn w v l):
  Calls Tryz.prog 15 #[v,.int .i64 n] w (a5m (a3b l n) w):=by
 have hl:=hin.len;have hsz:=hin.sz;obtain⟨a,cap,rfl,h⟩:=hin.at_;obtain⟨R,hR⟩:∃R,R=a3b l n:=⟨_,rfl⟩
 have HR:=hid hR;rw[<-hR];clear hR;have HC1:=hid (fun k (hk:k<l.length)=>(h (by omega)))
 have HSZ:=hid (fun k (hk:k<l.length)=>show (l.getD k emp).size<=maxLen by
  rw[List.getD_eq_getElem?_getD,List.getElem?_eq_getElem hk];exact hsz _ (List.getElem_mem hk))
 obtain⟨ln,hn⟩:∃ln,ln=l.length:=⟨_,rfl⟩
 have HN:=hid hn;rw[<-hn];have hn6:(ln:Int)<=9223372036854775807:=by unfold maxLen at hl;omega
 clear h hn hsz hl hin;go_enter Tryz.func15,Tryz.ntmps15;go_wp2;go_loopw [5] (fun i wr=>∃k:Nat,k<=ln/\i= .int .i64 k/\Hid (∀j,j<k->(l.getD j emp).size<=200)/\Below w.heap.size w wr) (fun i _=>ln-(intOf i).toNat)
 case atStart=>exact⟨0,Nat.zero_le _,rfl,hid (fun j hj=>by omega),Below.refl _ _⟩
 case round=>
  obtain⟨k,hk,rfl,ht,hb⟩:=hrel;by_cases hlt:k<ln
  ·obtain⟨b,off,rfl,hc⟩:=HC1.out k (by rw[<-HN.out];exact hlt);have c1:=keep_cell hb (hc k (by rw[<-HN.out];exact hlt));have hsx:=HSZ.out k (by rw[<-HN.out];exact hlt)
   have HT:=hid (fun(hx:(l.getD k emp).size<=200)=>show∀j,j<k+1->(l.getD j emp).size<=200 from fun j hj=>by
    by_cases e:j=k
    ·subst e;exact hx
    exact ht.out j (by omega))
   have HX:=hid (fun(hx:200<(l.getD k emp).size)=>show R=true by rw[HR.out];exact agt n (by rw[<-HN.out];exact hlt) hx);have HB:=hid hb;clear hc hb ht;generalize l.getD k emp=x at *;unfold maxLen at hsx;by_cases hxs:200<x.size
   ·have z0:(200:Int)<(x.size:Int):=by omega
    have HXX:=hid (HX.out hxs);go_wp2;go_ret;rw[HXX.out];exact⟨rfl,HB.out⟩
   have z0:¬(200:Int)<(x.size:Int):=by omega
   have HTT:=hid (HT.out (by omega));go_wp2;go_roundw
   case rel=>exact⟨k+1,by omega,by go_num,HTT,HB.out⟩
   case measure=>simp[intOf];omega
  have e:k=ln:=by omega
  have HXX:Hid (R=decide (n<(ln:Int))):=hid (by
   rw[HR.out,agu n (fun j hj=>ht.out j (by rw[e,HN.out];exact hj)),<-HN.out])
  clear e;go_wp2;go_ret;rw[HXX.out];exact⟨rfl,hb⟩
open Go
theorem a6x:∀(x r:List UInt8),(32:UInt8)∉x->cutR (x++32::r)=(x,r,true)
 |[],r,_=>by simp[cutR]
 | b::x,r,h=>by
  have hb:(b==32)=false:=by
   rw[beq_eq_false_iff_ne];rintro rfl;simp at h
  rw[List.cons_append,cutR,hb,a6x x r (fun hm=>h (by simp[hm]))];simp
def a4B(nx:Nat->Nat)(i k:Nat):Nat->Nat:=fun j=>if j=i then k else nx j
theorem a1U(nx:Nat->Nat)(i k:Nat):a4B nx i k i=k:=by simp[a4B]
theorem a0y(nx:Nat->Nat){i j:Nat}(k:Nat)(h:j≠i):a4B nx i k j=nx j:=by simp[a4B,h]
structure Mg(b:Book)(nx:Nat->Nat)(out:List Ent):Prop where
 le:∀i,i<4->nx i<=(b i).length
 asc:Asc out
 perm:out.Perm ((b 0).take (nx 0)++((b 1).take (nx 1)++((b 2).take (nx 2)++(b 3).take (nx 3))))
 low:∀x∈out,∀i,i<4->∀j (h:j<(b i).length),nx i<=j->eLt x (b i)[j]
theorem Mg.start(b:Book):Mg b (fun _=>0) []:=⟨fun _ _=>Nat.zero_le _,List.Pairwise.nil,by simp,fun x hx=>by simp at hx⟩
theorem Mg.len{b:Book}{nx:Nat->Nat}{out:List Ent}(h:Mg b nx out):out.length=nx 0+nx 1+nx 2+nx 3:=by
 rw[h.perm.length_eq];have h0:=h.le 0 (by omega);have h1:=h.le 1 (by omega);have h2:=h.le 2 (by omega);have h3:=h.le 3 (by omega);simp only[List.length_append,List.length_take];omega
theorem agv(l:List Ent)(k:Nat)(h:k<l.length):l.take (k+1)=l.take k++[l[k]]:=List.take_succ_eq_append_getElem h
theorem ai9{A B C D:List Ent}(e:Ent):(A++(B++(C++D))++[e]).Perm (A++[e]++(B++(C++D))):=by
 rw[List.append_assoc A,List.append_assoc A];exact List.Perm.append_left _ List.perm_append_comm
theorem Mg.step{b:Book}(hb:a08 b){nx:Nat->Nat}{out:List Ent}(h:Mg b nx out){i:Nat}(hi:i<4)(hlt:nx i<(b i).length)
  (hmin:∀j,j<4->j≠i->∀(hj:nx j<(b j).length),eCnt (b i)[nx i]<eCnt (b j)[nx j]\/(eCnt (b i)[nx i]=eCnt (b j)[nx j]/\i<j)):
  Mg b (a4B nx i (nx i+1)) (out++[(b i)[nx i]]):=by
 have hp:∀j,j<4->∀k (hk:k<(b j).length),a04 (b j)[k]=(j:Int):=fun j hj k hk=>((hb j hj).own k hk).1
 have hasc:∀j,j<4->∀x y (hx:x<(b j).length) (hy:y<(b j).length),x<y->eCnt (b j)[x]<eCnt (b j)[y]:=fun j hj x y hx hy hxy=>List.pairwise_iff_getElem.1 (hb j hj).asc x y hx hy hxy
 have hhead:∀j,j<4->∀k (hk:k<(b j).length),nx j<=k->(j≠i\/nx i<k)->eLt (b i)[nx i] (b j)[k]:=fun j hj k hk hle hor=>by
  by_cases e:j=i
  ·subst e;have:=hasc j hj (nx j) k hlt hk (by omega);exact .inl this
  have h1:=hmin j hj e (by omega);have p1:=hp i hi (nx i) hlt;have p2:=hp j hj k hk;unfold eLt;by_cases hk2:nx j=k
  ·subst hk2;rcases h1 with h1|⟨h1,h2⟩
   ·exact .inl h1
   exact .inr ⟨h1,by rw[p1,p2];omega⟩
  have:=hasc j hj (nx j) k (by omega) hk (by omega);left;rcases h1 with h1|⟨h1,h2⟩<;>omega
 refine⟨fun j hj=>?_,?_,?_,?_⟩
 ·by_cases e:j=i
  ·subst e;rw[a1U];exact hlt
  rw[a0y _ _ e];exact h.le j hj
 ·refine List.pairwise_append.2 ⟨h.asc,List.pairwise_singleton _ _,fun x hx y hy=>?_⟩;have:y=(b i)[nx i]:=by simpa using hy
  subst this;exact h.low x hx i hi (nx i) hlt (Nat.le_refl _)
 ·refine(h.perm.append_right _).trans ?_
  have hg:=agv (b i) (nx i) hlt;rcases (show i=0\/i=1\/i=2\/i=3 by omega)with rfl|rfl|rfl|rfl
  ·rw[a1U,a0y _ _ (by omega),a0y _ _ (by omega),a0y _ _ (by omega),hg];exact ai9 _
  ·rw[a1U,a0y _ _ (by omega),a0y _ _ (by omega),a0y _ _ (by omega),hg];simp only[List.append_assoc];refine List.Perm.append_left _ (List.Perm.append_left _ ?_);rw[<-List.append_assoc];exact List.perm_append_comm
  ·rw[a1U,a0y _ _ (by omega),a0y _ _ (by omega),a0y _ _ (by omega),hg];simp only[List.append_assoc];exact List.Perm.append_left _ (List.Perm.append_left _ (List.Perm.append_left _ List.perm_append_comm))
  rw[a1U,a0y _ _ (by omega),a0y _ _ (by omega),a0y _ _ (by omega),hg];simp only[List.append_assoc];exact List.Perm.refl _
 intro x hx j hj k hk hle
 have hnx:nx j<=k:=by
  by_cases e:j=i
  ·subst e;rw[a1U]at hle;omega
  rw[a0y _ _ e]at hle;exact hle
 rcases List.mem_append.1 hx with hx|hx
 ·exact h.low x hx j hj k hk hnx
 have:x=(b i)[nx i]:=by simpa using hx
 subst this;refine hhead j hj k hk hnx ?_;by_cases e:j=i
 ·subst e;rw[a1U]at hle;exact .inr (by omega)
 exact .inl e
theorem Mg.done{b:Book}{nx:Nat->Nat}{out:List Ent}(h:Mg b nx out)(hall:∀i,i<4->(b i).length<=nx i):out=allB b:=by
 refine ac7 h.asc (h.perm.trans (List.Perm.trans ?_ (a5V b).symm));rw[List.take_of_length_le (hall 0 (by omega)),List.take_of_length_le (hall 1 (by omega)),List.take_of_length_le (hall 2 (by omega)),List.take_of_length_le (hall 3 (by omega))]
end Go.Proofs.YtdfkaijeppdhaaaGreatDoor
