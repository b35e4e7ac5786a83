/- Texts of this claim, laid together: Sj, Sk, Su. -/
import Derived.Test.YtdfkaijeppdhaaaGreatDoorZHp43
import Derived.Test.YtdfkaijeppdhaaaGreatDoorZHp37
import Derived.Test.YtdfkaijeppdhaaaGreatDoorZHp42
import Derived.Deep.AppendLies
import Derived.Deep.RegionLaw
import Derived.Test.YtdfkaijeppdhaaaGreatDoorZHp30
import Derived.Test.YtdfkaijeppdhaaaGreatDoorZHp10
import Derived.Deep.RegionHeld3
import Derived.Deep.DeepCutAuto

set_option maxRecDepth 100000
set_option maxHeartbeats 8000000
set_option linter.unusedSimpArgs false
set_option linter.unusedVariables false

namespace Go.Proofs.YtdfkaijeppdhaaaGreatDoor
open Go.RowKit Go.Shelf
def gBlk(b:Book)(vs:Nat->Value):List Nat:=(List.range 4).flatMap fun i=>if 0<(b i).length then (vs i).ownBlock.toList else []
theorem mem_gBlk{b:Book}{vs:Nat->Value}{k:Nat}:k∈gBlk b vs↔∃i,i<4/\0<(b i).length/\(vs i).ownBlock=some k:=by
 unfold gBlk;simp only[List.mem_flatMap,List.mem_range];constructor
 ·rintro⟨i,hi,h⟩;split at h
  ·exact⟨i,hi,by assumption,by simpa using h⟩
  simp at h
 rintro⟨i,hi,h1,h2⟩;exact⟨i,hi,by rw[if_pos h1];simpa using h2⟩
theorem RfAt.rp{w:World}{P n:Nat}{vs:Nat->Value}{b:Book}(h:RfAt w P n vs b):RpAt w P n (gBlk b vs) b:=⟨vs,h,fun i hi h0 k hk=>mem_gBlk.2 ⟨i,hi,h0,hk⟩⟩
def a6U(w w':World)(b c:Book)(vs us:Nat->Value):Prop:=∀i,i<4->0<(c i).length->∀g,(us i).ownBlock=some g->(∃j,j<4/\0<(b j).length/\(vs j).ownBlock=some g)\/(w.heap.size<=g/\g<w'.heap.size)
def aad(P n:Nat)(vs:Nat->Value)(b b2:Book)(w:World)(e:Ending)(w':World):Prop:=
 e= .returned (.bool (decide ((a0x b b2).1=0)))/\∃us,RfAt w' P n us (a0x b b2).2/\a6U w w' b (a0x b b2).2 vs us/\Off [P] w w'
theorem aiA{b b2:Book}{k:Nat}(hk:k<4)(h:fitL (b k) (b2 k)=false):a0x b b2=(102,b):=by
 unfold a0x;rw[aaW hk h]
theorem aiB{b b2:Book}(h:∀i,i<4->fitL (b i) (b2 i)=true):a0x b b2=(0,a6O b b2):=by
 unfold a0x;rw[aaV h]
def a1W(b b2:Book)(k:Nat):Book:=fun i=>if i<k then a6O b b2 i else b i
structure JnR(P n:Nat)(vs vs2:Nat->Value)(b b2:Book)(w:World)(k:Nat)(us:Nat->Value)(wr:World):Prop where
 post:RfAt wr P n us (a1W b b2 k)
 rows:a6U w wr b (a1W b b2 k) vs us
 off:Off [P] (w.alloc (.cells #[vs2 0,vs2 1,vs2 2,vs2 3] 52)) wr
theorem a7K(w:World)(e:TypeId)(base size:Nat){g:Nat}(h:w.heap[g]? =some (.cells #[] e (0,0)))(hb:base<=g):w.ownsRow base e size (.slice (some ⟨g,0,none⟩) 0 0) 0 []:=
 ⟨by simp,.inr ⟨g,0,#[],rfl,hb,h,Nat.le_refl _,Nat.zero_le _,by simp,by simp⟩⟩
theorem EntsAt.news{w:World}{g off cap:Nat}{l:List Ent}(h:EntsAt w (.slice (some ⟨g,off,none⟩) l.length cap) l):∀j u,(rowE l)[j]? =some u->w.cell? ((⟨g,off,none⟩:Addr).add j)=some u:=by
 intro j u hj;have hjl:=(List.getElem?_eq_some_iff.1 hj).1
 rw[a0K]at hjl;have h0:0<l.length:=by omega
 obtain⟨a,cap',hv,_,hh⟩:=h;obtain⟨g',o',ha,hc⟩:=hh h0;simp only[Value.slice.injEq]at hv;obtain⟨rfl,_,rfl⟩:=hv;simp only[Option.some.injEq,Addr.mk.injEq,and_true]at ha;obtain⟨rfl,rfl⟩:=ha;have:=hc (j / 4) (j % 4) u (Nat.mod_lt _ (by omega)) (by rw[Nat.div_add_mod' j 4];exact hj);rw[Addr.add_lit];rw[Nat.add_assoc,Nat.div_add_mod' j 4]at this;exact this
theorem Off.alloc{F:List Nat}{a b:World}(h:Off F a b)(o:Obj):Off F a (b.alloc o):=h.trans (Off.of_below ((Below.refl _ _).alloc (Nat.le_refl _) o))
theorem Off.drew{F:List Nat}{a b:World}(h:Off F a b):Off F a b.drew:=h.trans (Off.of_below (Below.refl _ _).drew)
theorem Off.grown{F:List Nat}{a b c:World}(h:Off F a b){o:Option Nat}(hg:b.grownBy c o)(ho:∀k,o=some k->a.heap.size<=k):Off F a c:=
 ⟨hg.os.trans h.os,hg.tape.trans h.tape,hg.output.trans h.output,Nat.le_trans h.size hg.size,fun k hk hn=>(hg.block k (Nat.lt_of_lt_of_le hk h.size) (fun e=>by have:=ho k e.symm;omega)).trans (h.block k hk hn)⟩
theorem Off.set{P:Nat}{a b:World}(h:Off [P] a b)(j:Nat)(v:Value):Off [P] a (b.setCell ⟨P,j,none⟩ v):=
 ⟨h.os,h.tape,h.output,by rw[World.size_setCell];exact h.size,fun k hk hn=>(Below.heap_setCell _ _ _ k (by simpa using hn)).trans (h.block k hk hn)⟩
theorem JnR.next{P n:Nat}{vs vs2:Nat->Value}{b b2:Book}{w wr W7:World}{k:Nat}{us:Nat->Value}(h:JnR P n vs vs2 b b2 w k us wr)(hk:k<4)(hPw:P<w.heap.size)(hne:∀i,i<4->0<(b i).length->(vs i).ownBlock≠some P)(hf:fitL (b k) (b2 k)=true)(hlt:(b k).length<(b2 k).length)
  {v':Value}(hv:EntsAt W7 v' (b2 k))(hnew:∀g,v'.ownBlock=some g->wr.heap.size<=g/\g<W7.heap.size)(ho:Off [] wr W7):
  JnR P n vs vs2 b b2 w (k+1) (a19 us k v') (W7.setCell ⟨P,1+k,none⟩ v')/\(W7.cell? ⟨P,1+k,none⟩=some (us k)/\W7.frozen? ⟨P,1+k,none⟩=false):=by
 have hPr:=h.post.lt;have hwr:w.heap.size+1<=wr.heap.size:=by have:=h.off.size;simpa using this
 have hsz:=ho.size;have hP7:W7.heap[P]? =some (.cells #[.int .i64 n,us 0,us 1,us 2,us 3] 54 (0,0)):=(ho.block P hPr (by simp)).trans h.post.1
 have hjk:a1W b b2 (k+1) k=b2 k:=by
  unfold a1W a6O;rw[if_pos (by omega),aa5 hf,if_pos hlt]
 have hjo:∀i,i≠k->a1W b b2 (k+1) i=a1W b b2 k i:=fun i hi=>by
  unfold a1W;by_cases h1:i<k
  ·rw[if_pos h1,if_pos (by omega)]
  rw[if_neg h1,if_neg (by omega)]
 have hown:∀i,i<4->0<(a1W b b2 k i).length->∀g,(us i).ownBlock=some g->g≠P:=fun i hi h0 g hg e=>by
  subst e;rcases h.rows i hi h0 g hg with⟨j,hj,h1,h2⟩|⟨h1,_⟩
  ·exact hne j hj h1 h2
  omega
 refine⟨⟨⟨?_,fun i hi=>?_⟩,fun i hi h0 g hg=>?_,?_⟩,⟨?_,by simp[World.frozen?,hP7]⟩⟩
 ·rw[a6L hP7];congr 1;unfold a19;rcases (show k=0\/k=1\/k=2\/k=3 by omega)with rfl|rfl|rfl|rfl<;>simp
 ·by_cases e:i=k
  ·subst e;rw[a11,hjk];exact hv.keep fun _ g hg=>Below.heap_setCell _ _ _ g (by have:=hnew g hg;show g≠P;omega)
  rw[a0w _ _ e,hjo i e];refine(h.post.2 i hi).keep fun h0 g hg=>?_
  have hgl:=(h.post.2 i hi).lt h0 hg
  exact(Below.heap_setCell _ _ _ g (hown i hi h0 g hg)).trans (ho.block g hgl (by simp))
 ·by_cases e:i=k
  ·subst e;rw[a11]at hg;have:=hnew g hg;refine .inr ⟨by omega,?_⟩
   rw[World.size_setCell];omega
  rw[a0w _ _ e]at hg;rw[hjo i e]at h0;rcases h.rows i hi h0 g hg with h1|⟨h1,h2⟩
  ·exact .inl h1
  refine .inr ⟨h1,?_⟩
  rw[World.size_setCell];omega
 ·exact(h.off.trans (ho.mono fun k hk=>by simp at hk)).set _ _
 rcases (show k=0\/k=1\/k=2\/k=3 by omega)with rfl|rfl|rfl|rfl<;>exact heap_cell hP7 rfl
theorem JnR.below{P n:Nat}{vs vs2:Nat->Value}{b b2:Book}{w wr w':World}{k:Nat}{us:Nat->Value}(h:JnR P n vs vs2 b b2 w k us wr)(hb:Below wr.heap.size wr w'):JnR P n vs vs2 b b2 w k us w':=by
 have hsz:=hb.size;refine⟨⟨(hb.block _ h.post.lt).trans h.post.1,fun i hi=>(h.post.2 i hi).below hb⟩,fun i hi h0 g hg=>?_,h.off.trans (Off.of_below hb)⟩;rcases h.rows i hi h0 g hg with h1|⟨h1,h2⟩
 ·exact .inl h1
 exact .inr ⟨h1,by omega⟩
theorem a8T{P:Program}{c:Code}{Q:Exit->Act->World->Prop}{a:Act}{w0:World}{n:Nat}(h:∀W,Below w0.heap.size w0 W->Code.wp P c Q a W):Code.wp P c Q a (w0.drewN n):=h _ (a0d (Below.refl _ _) _)
theorem JnR.skip{P n:Nat}{vs vs2:Nat->Value}{b b2:Book}{w wr:World}{k:Nat}{us:Nat->Value}(h:JnR P n vs vs2 b b2 w k us wr)(hf:fitL (b k) (b2 k)=true)(hlt:¬(b k).length<(b2 k).length)(q:Nat):JnR P n vs vs2 b b2 w (k+1) us (wr.drewN q):=by
 have hj:∀i,a1W b b2 (k+1) i=a1W b b2 k i:=fun i=>by
  unfold a1W;by_cases h1:i<k
  ·rw[if_pos h1,if_pos (by omega)]
  rw[if_neg h1];by_cases h2:i=k
  ·subst h2;rw[if_pos (by omega)];unfold a6O;rw[aa5 hf,if_neg hlt]
  rw[if_neg (by omega)]
 have hb:Below wr.heap.size wr (wr.drewN q):=a0d (Below.refl _ _) q;have hsz:=hb.size;refine⟨⟨(hb.block _ h.post.lt).trans h.post.1,fun i hi=>?_⟩,fun i hi h0 g hg=>?_,h.off.trans (Off.of_below hb)⟩
 ·rw[hj];exact(h.post.2 i hi).below hb
 rw[hj]at h0;rcases h.rows i hi h0 g hg with h1|⟨h1,h2⟩
 ·exact .inl h1
 exact .inr ⟨h1,by omega⟩
open Lib (hid)
theorem ah5(P n:Nat)(vs:Nat->Value)(b:Book)(vs2:Nat->Value)(b2:Book)(w:World)(h:RfAt w P n vs b)(h2:∀i,i<4->EntsAt w (vs2 i) (b2 i))(hok:a08 b)(hok2:a08 b2)
  (hne:∀i,i<4->0<(b i).length->(vs i).ownBlock≠some P)(hne2:∀i,i<4->0<(b2 i).length->(vs2 i).ownBlock≠some P):
  Calls Tryz.prog 27 #[.pointer (some ⟨P,0,none⟩),.agg #[vs2 0,vs2 1,vs2 2,vs2 3]] w (aad P n vs b b2 w):=by
 obtain⟨wB,hwB⟩:∃wB,wB=w.alloc (.cells #[vs2 0,vs2 1,vs2 2,vs2 3] 52):=⟨_,rfl⟩
 have HBL:Hid (Below w.heap.size w wB):=hid (by rw[hwB];exact(Below.refl _ w).alloc (Nat.le_refl _) _);have HBX:Hid (wB.heap[w.heap.size]? =some (.cells #[vs2 0,vs2 1,vs2 2,vs2 3] 52 (0,0))):=hid (by rw[hwB];exact World.alloc_heap_new w _);have HRF:=hid (h.below HBL.out);have H2:=hid (fun i hi=>(h2 i hi).below HBL.out);have HOK:=hid hok;have HOK2:=hid hok2;have HNE:=hid hne;have HNE2:=hid hne2;have HPW:=hid h.lt;have HW:=hid hwB;clear h h2 hok hok2 hne hne2 hwB;go_enter Tryz.func27,Tryz.ntmps27;go_wp2_with fail
 rw[<-HW.out];go_loopw [5] (fun i wr=>∃k:Nat,k<=4/\i= .int .i64 k/\Hid (∀j,j<k->fitL (b j) (b2 j)=true)/\Hid (Below wB.heap.size wB wr)) (fun i _=>4-(intOf i).toNat)
 case atStart=>exact⟨0,by omega,rfl,hid (fun j hj=>by omega),hid (Below.refl _ _)⟩
 case round=>
  obtain⟨k,hk,rfl,HF,HBW⟩:=hrel;by_cases hlt:k<4
  ·have hlt2:(k:Int)<4:=by omega
   have hge:(0:Int)<=(k:Int):=by omega
   have HRK:=hid (HRF.out.below HBW.out);have HXK:=hid ((HBW.out.block _ (Array.getElem?_eq_some_iff.1 HBX.out).1).trans HBX.out);have c1:∀W,KB wr W->W.cell? ⟨P,1+k,none⟩=some (vs k):=fun W hW=>keep_cell hW (HRK.out.cell hlt)
   have c2:∀W,KB wr W->W.cell? ⟨w.heap.size,k,none⟩=some (vs2 k):=fun W hW=>keep_cell hW (by
    rcases (show k=0\/k=1\/k=2\/k=3 by omega)with rfl|rfl|rfl|rfl<;>exact heap_cell HXK.out rfl)
   have HG1:=hid (fun W (hW:KB wr W)=>a7i (vs k) (vs2 k) (b k) (b2 k) W ((HRK.out.2 k hlt).below hW) (((H2.out k hlt).below HBW.out).below hW) (by have:=(HOK.out k hlt).len;omega));have HG2:=hid (fun W (hW:KB wr W)=>a7i (vs2 k) (vs k) (b2 k) (b k) W (((H2.out k hlt).below HBW.out).below hW) ((HRK.out.2 k hlt).below hW) (by have:=(HOK2.out k hlt).len;omega));have HFT:Hid (fitL (b k) (b2 k)=(decide (b k<+:b2 k)||decide (b2 k<+:b k))):=hid rfl;generalize decide (b k<+:b2 k)=q1 at *;generalize decide (b2 k<+:b k)=q2 at *
   have HNX:=hid (fun(hq:(q1||q2)=true)=>show∀j,j<k+1->fitL (b j) (b2 j)=true from fun j hj=>by
    by_cases e:j=k
    ·subst e;rw[HFT.out,hq]
    exact HF.out j (by omega))
   have HNO:=hid (fun(hq:(q1||q2)=false)=>aiA (b:=b) (b2:=b2) hlt (by rw[HFT.out,hq]));generalize vs k=v1 at *;generalize vs2 k=v2 at *;cases q1 with
   |true=>
    go_wp2;refine wp_region_held_drew (S:=KB wr) (by kernel_rfl) (KB.drew (KB.refl _)) (fun hHeld=>?_);refine tk [0,1,2,3,4,5,6,7,8] ?_;repeat (refine tkC hHeld (h:=?_);apply exq;(· intro W3 hS3;go_simp;try rfl);try simp only[gS])
    with_reducible refine tkE ?_
    refine wpAnyH_ready (rs:=[9]) (by kernel_rfl) (by simp) ?_;refine(AllReadyH.cons rfl (fun K hK=>?_) AllReadyH.nil);go_simp;refine(HG1.out _ hHeld).mono ?_
    rintro e w2 ⟨rfl,hb2⟩;have hk2:=KB.call (w:=wr) hHeld hb2;clear hb2;dsimp only;refine hK.out _ _ hk2 (fun hHeld=>?_);clear hK K hk2;try simp only[Act.put,List.getElem_toArray,List.getElem_cons_zero,List.getElem_cons_succ,List.setIfInBounds_toArray,List.set_cons_zero,List.set_cons_succ]
    refine tk [10,11] ?_;repeat (refine tkC hHeld (h:=?_);apply exq;(· intro W3 hS3;go_simp;try rfl);try simp only[gS])
    with_reducible refine tkE ?_
    refine tk [12,13,14,15,16,17,18,19,20,21,22] ?_;repeat (refine tkS hHeld (h:=?_);try simp only[gS])
    with_reducible refine tkE ?_
    refine tk [23] ?_;repeat (refine tkC hHeld (h:=?_);apply exq;(· intro W3 hS3;go_simp;try rfl);try simp only[gS])
    with_reducible refine tkE ?_
    refine wpAnyH_done (by kernel_rfl) ?_ _;try simp only[Exit.then]
    have HB5:=hid (HBW.out.trans (hHeld.mono HBW.out.size));clear hHeld;go_wp2;go_roundw
    case rel=>exact⟨k+1,by omega,by go_num,hid (HNX.out rfl),HB5⟩
    case measure=>simp[intOf];omega
   | false=>
    cases q2 with
    |true=>
     go_wp2;refine wp_region_held_drew (S:=KB wr) (by kernel_rfl) (KB.drew (KB.refl _)) (fun hHeld=>?_);refine tk [0,1,2,3,4,5,6,7,8] ?_;repeat (refine tkC hHeld (h:=?_);apply exq;(· intro W3 hS3;go_simp;try rfl);try simp only[gS])
     with_reducible refine tkE ?_
     refine wpAnyH_ready (rs:=[9]) (by kernel_rfl) (by simp) ?_;refine(AllReadyH.cons rfl (fun K hK=>?_) AllReadyH.nil);go_simp;refine(HG1.out _ hHeld).mono ?_
     rintro e w2 ⟨rfl,hb2⟩;have hk2:=KB.call (w:=wr) hHeld hb2;clear hb2;dsimp only;refine hK.out _ _ hk2 (fun hHeld=>?_);clear hK K hk2;try simp only[Act.put,List.getElem_toArray,List.getElem_cons_zero,List.getElem_cons_succ,List.setIfInBounds_toArray,List.set_cons_zero,List.set_cons_succ]
     refine tk [10,11,12,13,14,15,16,17,18,19,20] ?_;repeat (refine tkC hHeld (h:=?_);apply exq;(· intro W3 hS3;go_simp;try rfl);try simp only[gS])
     with_reducible refine tkE ?_
     refine wpAnyH_ready (rs:=[21]) (by kernel_rfl) (by simp) ?_;refine(AllReadyH.cons rfl (fun K hK=>?_) AllReadyH.nil);go_simp;refine(HG2.out _ hHeld).mono ?_
     rintro e w2 ⟨rfl,hb2⟩;have hk2:=KB.call (w:=wr) hHeld hb2;clear hb2;dsimp only;refine hK.out _ _ hk2 (fun hHeld=>?_);clear hK K hk2;try simp only[Act.put,List.getElem_toArray,List.getElem_cons_zero,List.getElem_cons_succ,List.setIfInBounds_toArray,List.set_cons_zero,List.set_cons_succ]
     refine tk [22,23] ?_;repeat (refine tkC hHeld (h:=?_);apply exq;(· intro W3 hS3;go_simp;try rfl);try simp only[gS])
     with_reducible refine tkE ?_
     refine wpAnyH_done (by kernel_rfl) ?_ _;try simp only[Exit.then]
     have HB5:=hid (HBW.out.trans (hHeld.mono HBW.out.size));clear hHeld;go_wp2;go_roundw
     case rel=>exact⟨k+1,by omega,by go_num,hid (HNX.out rfl),HB5⟩
     case measure=>simp[intOf];omega
    |false=>
     go_wp2;refine wp_region_held_drew (S:=KB wr) (by kernel_rfl) (KB.drew (KB.refl _)) (fun hHeld=>?_);refine tk [0,1,2,3,4,5,6,7,8] ?_;repeat (refine tkC hHeld (h:=?_);apply exq;(· intro W3 hS3;go_simp;try rfl);try simp only[gS])
     with_reducible refine tkE ?_
     refine wpAnyH_ready (rs:=[9]) (by kernel_rfl) (by simp) ?_;refine(AllReadyH.cons rfl (fun K hK=>?_) AllReadyH.nil);go_simp;refine(HG1.out _ hHeld).mono ?_
     rintro e w2 ⟨rfl,hb2⟩;have hk2:=KB.call (w:=wr) hHeld hb2;clear hb2;dsimp only;refine hK.out _ _ hk2 (fun hHeld=>?_);clear hK K hk2;try simp only[Act.put,List.getElem_toArray,List.getElem_cons_zero,List.getElem_cons_succ,List.setIfInBounds_toArray,List.set_cons_zero,List.set_cons_succ]
     refine tk [10,11,12,13,14,15,16,17,18,19,20] ?_;repeat (refine tkC hHeld (h:=?_);apply exq;(· intro W3 hS3;go_simp;try rfl);try simp only[gS])
     with_reducible refine tkE ?_
     refine wpAnyH_ready (rs:=[21]) (by kernel_rfl) (by simp) ?_;refine(AllReadyH.cons rfl (fun K hK=>?_) AllReadyH.nil);go_simp;refine(HG2.out _ hHeld).mono ?_
     rintro e w2 ⟨rfl,hb2⟩;have hk2:=KB.call (w:=wr) hHeld hb2;clear hb2;dsimp only;refine hK.out _ _ hk2 (fun hHeld=>?_);clear hK K hk2;try simp only[Act.put,List.getElem_toArray,List.getElem_cons_zero,List.getElem_cons_succ,List.setIfInBounds_toArray,List.set_cons_zero,List.set_cons_succ]
     refine tk [22,23] ?_;repeat (refine tkC hHeld (h:=?_);apply exq;(· intro W3 hS3;go_simp;try rfl);try simp only[gS])
     with_reducible refine tkE ?_
     refine wpAnyH_done (by kernel_rfl) ?_ _;try simp only[Exit.then]
     have HB5:=hid (HBW.out.trans (hHeld.mono HBW.out.size));clear hHeld;go_wp2;go_ret;have HJ:=HNO.out rfl;refine⟨by rw[HJ];rfl,vs,?_,?_,?_⟩
     ·rw[HJ];exact HRF.out.below HB5.out
     ·rw[HJ];exact fun i hi h0 g hg=>.inl ⟨i,hi,h0,hg⟩
     exact Off.of_below (HBL.out.trans (HB5.out.mono HBL.out.size))
  obtain rfl:k=4:=by omega
  have HFA:Hid (∀i,i<4->fitL (b i) (b2 i)=true):=hid HF.out;have HJO:=hid (aiB HFA.out)
  have HJ0:Hid (JnR P n vs vs2 b b2 w 0 vs wr):=hid ⟨by
   have h9:=HRF.out.below HBW.out;exact⟨h9.1,fun i hi=>h9.2 i hi⟩,fun i hi h0 g hg=>.inl ⟨i,hi,h0,hg⟩,by rw[<-HW.out];exact Off.of_below HBW.out⟩
  obtain⟨i0,hi0,hz0,hz1,hz2⟩:=info_parts Tryz.infoEnt;clear HF HBW hk;rw[show ((4:Nat):Int)=4 from rfl];go_wp2;go_loopw [6] (fun i wr=>∃(k:Nat) (us:Nat->Value),k<=4/\i= .int .i64 k/\Hid (JnR P n vs vs2 b b2 w k us wr)) (fun i _=>4-(intOf i).toNat)
  case atStart=>exact⟨0,vs,by omega,rfl,HJ0⟩
  case round=>
   obtain⟨k,us,hk,rfl,HJ⟩:=hrel;by_cases hlt:k<4
   ·have hlt2:(k:Int)<4:=by omega
    have hge:(0:Int)<=(k:Int):=by omega
    have HOB:=hid (HJ.out.off);rw[<-HW.out]at HOB;have HXK:=hid ((HOB.out.block w.heap.size (Array.getElem?_eq_some_iff.1 HBX.out).1 (by simp;have:=HPW.out;omega)).trans HBX.out)
    have HE2:Hid (EntsAt wr (vs2 k) (b2 k)):=hid ((H2.out k hlt).keep fun h0 g hg=>HOB.out.block g ((H2.out k hlt).lt h0 hg) (by
     have h9:=HNE2.out k hlt h0;rw[hg]at h9;simpa using h9))
    have c1:=HJ.out.post.cell hlt
    have c2:wr.cell? ⟨w.heap.size,k,none⟩=some (vs2 k):=by
     rcases (show k=0\/k=1\/k=2\/k=3 by omega)with rfl|rfl|rfl|rfl<;>exact heap_cell HXK.out rfl
    have HE1:=hid (HJ.out.post.2 k hlt);rw[show a1W b b2 k k=b k by unfold a1W;rw[if_neg (Nat.lt_irrefl k)]]at HE1;obtain⟨a1,k1,hu⟩:=HE1.out.shape;obtain⟨a2,k2,hv2⟩:=HE2.out.shape;rw[hu]at c1;rw[hv2]at c2 HE2;have HU:=hid hu;have HFK:=hid (HFA.out k hlt);have hl2:=(HOK2.out k hlt).len
    obtain⟨n1,hn1⟩:∃n,n=(b k).length:=⟨_,rfl⟩
    obtain⟨n2,hn2⟩:∃n,n=(b2 k).length:=⟨_,rfl⟩
    have HN1:=hid hn1;have HN2:=hid hn2;rw[<-hn1]at c1 HU;rw[<-hn2]at c2 hl2;have HE2':Hid (EntsAt wr (.slice a2 n2 k2) (b2 k)):=hid (by rw[hn2];exact HE2.out);clear hn1 hn2 hu hv2 HE2 HE1;by_cases hl:n1<n2
    ·have hli:(n1:Int)<(n2:Int):=by omega
     obtain⟨g2,o2,rfl⟩:∃g2 o2,a2=some ⟨g2,o2,none⟩:=by
      obtain⟨g,o,c,hv,_⟩:=HE2'.out.entry (k:=0) (by rw[<-HN2.out];omega);simp only[Value.slice.injEq]at hv;exact⟨g,o,hv.1⟩
     go_wp2;go_quiet (fail)
     go_wp2;refine a8T (fun W5 hX5=>?_);have HJ5:=hid (HJ.out.below hX5);have HE5:=hid (HE2'.out.below hX5);have c1a:=keep_cell hX5 c1;have c2a:=keep_cell hX5 c2;have c2b:(W5.alloc (.cells #[] 43)).cell? ⟨w.heap.size,k,none⟩=some (.slice (some ⟨g2,o2,none⟩) n2 k2):=keep_cell ((Below.refl _ _).alloc (Nat.le_refl _) _) c2a
     clear c1 c2 hX5;obtain⟨W6,hW6⟩:∃W6,W6=(W5.alloc (.cells #[] 43)).drew:=⟨_,rfl⟩
     have HX6:Hid (Below W5.heap.size W5 W6):=hid (by rw[hW6];exact((Below.refl _ _).alloc (Nat.le_refl _) _).drew);have HNW:Hid (W6.heap[W5.heap.size]? =some (.cells #[] 43 (0,0))):=hid (by rw[hW6];exact World.alloc_heap_new W5 _);have HSZ6:Hid (W5.heap.size<W6.heap.size):=hid (Array.getElem?_eq_some_iff.1 HNW.out).1
     have HAP:Hid (∀ty,∃v' W',(Builtin.append_ #[40,40] ty #[.slice (some ⟨W5.heap.size,0,none⟩) 0 0,.slice (some ⟨g2,o2,none⟩) n2 k2]).run Tryz.prog W6= .ok v' W'/\
       (W'.ownsRow W5.heap.size 43 4 v' (0+n2) ([]++rowE (b2 k))/\W6.grownBy W' (Value.slice (some ⟨W5.heap.size,0,none⟩) 0 0).ownBlock)):=hid (fun ty=>by
      obtain⟨v',W',hrun,hown,hgr,_⟩:=run_append_own (P:=Tryz.prog) (w:=W6) W5.heap.size 40 ty 43 i0 _ 4 40 Tryz.underlying40 hi0 hz0 hz1 hz2 rfl (by decide) (.slice (some ⟨W5.heap.size,0,none⟩) 0 0) 0 [] (a7K W6 _ _ 4 HNW.out (Nat.le_refl _)) ⟨g2,o2,none⟩ n2 k2 (rowE (b2 k)) (by rw[a0K,HN2.out]) (by
       have h9:=(HE5.out.below HX6.out)
       rw[HN2.out]at h9;exact h9.news) (a2k _) (by unfold maxLen;omega) (by omega) (by have:=HSZ6.out;omega)
      exact⟨v',W',hrun,hown,hgr⟩)
     have HNX:=hid (fun(v':Value) (W7:World) (hR:W7.ownsRow W5.heap.size 43 4 v' (0+n2) ([]++rowE (b2 k))/\W6.grownBy W7 (Value.slice (some ⟨W5.heap.size,0,none⟩) 0 0).ownBlock)=>HJ5.out.next (v':=v') (W7:=W7) hlt HPW.out HNE.out HFK.out (by rw[<-HN1.out,<-HN2.out];exact hl)
      (by
       have h9:=a1z hR.1 (Nat.zero_le _);rw[Nat.zero_add,List.nil_append,HN2.out]at h9;exact ListAt.ents h9 (by rw[<-HN2.out];omega))
      (fun g hg=>hR.1.lt g hg)
      ((Off.of_below HX6.out).grown hR.2 (fun k e=>by
       have:k=W5.heap.size:=by simpa [Value.ownBlock]using e.symm
       omega)))
     rw[HU.out]at HNX;have HW6:=hid hW6;clear hW6
     go_region_law (first
      |((rw[<-HW6.out];refine a0v (by rfl) _ _ _ (by rfl) (.slice (some ⟨W5.heap.size,0,none⟩) 0 0) (.slice (some ⟨g2,o2,none⟩) n2 k2) (by rfl) (by rfl) (fun v' W'=>W'.ownsRow W5.heap.size 43 4 v' (0+n2) ([]++rowE (b2 k))/\W6.grownBy W' (Value.slice (some ⟨W5.heap.size,0,none⟩) 0 0).ownBlock) (HAP.out _) ?_;intro v' W7 hR;have HR:=hid (HNX.out v' W7 hR);obtain⟨va,vc,rfl⟩:=a3V hR.1;obtain⟨c7,f7⟩:=HR.out.2;clear hR))
      |fail)
     all_goals
      go_wp2;go_roundw
      case rel=>
       refine⟨k+1,a19 us k (.slice va n2 vc),by omega,by go_num,hid ?_⟩;have h9:=HR.out.1;rw[Nat.zero_add]at h9;exact h9
      case measure=>simp[intOf];omega
    have hli:¬(n1:Int)<(n2:Int):=by omega
    have HSK:=hid (fun q=>HJ.out.skip HFK.out (by rw[<-HN1.out,<-HN2.out];exact hl) q);go_wp2;go_quiet (fail)
    have HS2:=hid (HSK.out nq);go_wp2;go_roundw
    case rel=>exact⟨k+1,us,by omega,by go_num,HS2⟩
    case measure=>simp[intOf];omega
   obtain rfl:k=4:=by omega
   go_wp2;go_ret;refine⟨by rw[HJO.out];rfl,us,?_,?_,?_⟩
   ·rw[HJO.out];have h9:=HJ.out.post;refine⟨h9.1,fun i hi=>?_⟩;have:=h9.2 i hi;unfold a1W at this;rw[if_pos hi]at this;exact this
   ·rw[HJO.out];intro i hi h0 g hg;exact HJ.out.rows i hi (by unfold a1W;rw[if_pos hi];exact h0) g hg
   have h9:=HJ.out.off;exact(Off.of_below ((Below.refl _ w).alloc (Nat.le_refl _) _)).trans (h9.mono fun k hk=>.inl hk)
def ado(P n:Nat)(vs:Nat->Value)(b:Book)(r:ByteArray×Int×Book)(w:World)(e:Ending)(w':World):Prop:=
 e= .returned (.tuple #[.string r.1,.int .i64 r.2.1])/\∃us,RfAt w' P n us r.2.2/\a6U w w' b r.2.2 vs us/\Off [P] w w'
theorem ajF(b:Book)(n:Nat)(line:ByteArray):doB b n line=
  if (a1c (a0r (allB b) []) line).1.2=100 then (emp,100,b)else if 60<=(b n).length\/1000000<=cntB b then (emp,4,b)else
   if (a1c (a0r (allB b) []) line).1.2=0 then ((a1c (a0r (allB b) []) line).1.1,0,a1n b n (newE b n line))else (emp,(a1c (a0r (allB b) []) line).1.2,b):=by
 have h:=a8L (a0r (allB b) []) line;rw[a5G]at h;unfold a5g at h;unfold doB;cases hp:a02 line with
 |none=>rw[hp]at h;simp only at h⊢;rw[h];simp
 | some c=>
  rw[hp]at h;cases hd:c.deed with
  |false=>simp only[hd,Bool.false_eq_true,if_false]at h;simp only[hd,if_true];rw[h];simp
  | true=>
   simp only[hd,if_true]at h;obtain⟨h1,_⟩:=h;rw[h1]
   have hne:¬(sayB c (a06 (allB b))).1.2=100:=by
    cases c with
    |put x y=>simp[sayB]
    |drop x=>simp only[sayB];split<;>simp
    |add x y=>simp[sayB]
    |stock x=>cases hd
    |share x y=>cases hd
    |asked x y z=>cases hd
   simp only[hd,Bool.true_eq_false,if_false,if_neg hne]
theorem a5L{P n:Nat}{vs:Nat->Value}{b:Book}{w w':World}(h:RfAt w P n vs b)(hb:Below w.heap.size w w'):∃us,RfAt w' P n us b/\a6U w w' b b vs us/\Off [P] w w':=
 ⟨vs,h.below hb,fun i hi h0 g hg=>.inl ⟨i,hi,h0,hg⟩,Off.of_below hb⟩
theorem a8U(W:World)(ty:TypeId){g0:Nat}(h0:W.heap[g0]? =some (.cells #[] 43 (0,0)))(a:Option Addr)(c:Nat):
  (Builtin.append_ #[40,40] ty #[.slice (some ⟨g0,0,none⟩) 0 0,.slice a 0 c]).run Tryz.prog W= .ok (.slice (some ⟨g0,0,none⟩) 0 0) W:=by
 obtain⟨i0,hi0,hz0,hz1,hz2⟩:=info_parts Tryz.infoEnt;cases a<;>simp[Builtin.append_,run_underlying Tryz.underlying40,sizeOf,typeInfo,hi0,Builtin.lenOf,Builtin.firstCells,storeCells,loadCells,loadCellsFrom]
structure App1(b0 g0:Nat)(l:List Ent)(W:World)(v:Value)(W':World):Prop where
 row:W'.ownsRow b0 43 4 v l.length (rowE l)
 grown:W.grownBy W' (some g0)
 is:∃g c,v= .slice (some ⟨g,0,none⟩) l.length c
theorem a6N(b0:Nat){W:World}{g0:Nat}(h0:W.heap[g0]? =some (.cells #[] 43 (0,0)))(hb:b0<=g0){a:Option Addr}{c:Nat}{l:List Ent}{n:Nat}(hn:n=l.length)(hE:EntsAt W (.slice a n c) l)(hl:n<=100)(ty:TypeId):
  ∃v W',(Builtin.append_ #[40,40] ty #[.slice (some ⟨g0,0,none⟩) 0 0,.slice a n c]).run Tryz.prog W= .ok v W'/\App1 b0 g0 l W v W':=by
 subst hn;obtain⟨i0,hi0,hz0,hz1,hz2⟩:=info_parts Tryz.infoEnt;have hlt:=(Array.getElem?_eq_some_iff.1 h0).1
 by_cases hz:l.length=0
 ·have hl0:=List.length_eq_zero_iff.1 hz;subst hl0;exact⟨_,_,a8U W ty h0 a c,a7K W _ _ 4 h0 hb,⟨rfl,rfl,rfl,Nat.le_refl _,fun _ _ _=>rfl⟩,g0,0,rfl⟩
 obtain⟨g,off,c',hv,_⟩:=hE.entry (k:=0) (by omega);simp only[Value.slice.injEq]at hv;obtain⟨rfl,_,rfl⟩:=hv;obtain⟨v',W',hrun,hown,hgr,_⟩:=run_append_own (P:=Tryz.prog) (w:=W) b0 40 ty 43 i0 _ 4 40 Tryz.underlying40 hi0 hz0 hz1 hz2 rfl (by decide) (.slice (some ⟨g0,0,none⟩) 0 0) 0 [] (a7K W _ _ 4 h0 hb) ⟨g,off,none⟩ l.length c (rowE l) (a0K l) hE.news (a2k _) (by unfold maxLen;omega) (by omega) (by omega);rw[Nat.zero_add,List.nil_append]at hown;obtain⟨g1,c1,hv1,_⟩:=hown.form (by omega);exact⟨v',W',hrun,hown,hgr,g1,c1,hv1⟩
structure App2(b0:Nat)(v1:Value)(l:List Ent)(e:Ent)(W:World)(v:Value)(W':World):Prop where
 row:W'.ownsRow b0 43 4 v (l++[e]).length (rowE (l++[e]))
 grown:W.grownBy W' v1.ownBlock
 is:∃g c,v= .slice (some ⟨g,0,none⟩) (l.length+1) c
theorem a5M{b0:Nat}{W:World}{v1:Value}{l:List Ent}(hr:W.ownsRow b0 43 4 v1 l.length (rowE l))(hbw:b0<=W.heap.size)(hl:l.length<=100){ge:Nat}{e:Ent}{c0 c1 c2 c3:Value}(he:W.heap[ge]? =some (.cells #[c0,c1,c2,c3] 43 (0,0)))(hc:entC e=[c0,c1,c2,c3])(ty:TypeId):
  ∃v W',(Builtin.append_ #[40,40] ty #[v1,.slice (some ⟨ge,0,none⟩) 1 1]).run Tryz.prog W= .ok v W'/\App2 b0 v1 l e W v W':=by
 obtain⟨i0,hi0,hz0,hz1,hz2⟩:=info_parts Tryz.infoEnt;obtain⟨v',W',hrun,hown,hgr,_⟩:=run_append_own (P:=Tryz.prog) (w:=W) b0 40 ty 43 i0 _ 4 40 Tryz.underlying40 hi0 hz0 hz1 hz2 rfl (by decide) v1 l.length (rowE l) hr ⟨ge,0,none⟩ 1 1 (rowE [e]) (by rw[a0K];rfl) (a4s he hc) (a2k _) (by unfold maxLen;omega) (by omega) hbw;obtain⟨g1,c1,hv1,_⟩:=hown.form (by omega);exact⟨v',W',hrun,by rw[List.length_append,List.length_singleton,a1s];exact hown,hgr,g1,c1,hv1⟩
theorem do_end{P n:Nat}{vs:Nat->Value}{b:Book}{e:Ent}{w wc W9:World}{v9:Value}(hn:n<4)(hok:(b n).length<=60)(hw:Below w.heap.size w wc)(h:RfAt wc P n vs b)(hPw:P<w.heap.size)(hne:∀i,i<4->0<(b i).length->(vs i).ownBlock≠some P)
  (hk:KB wc W9)(hr:W9.ownsRow wc.heap.size 43 4 v9 (b n++[e]).length (rowE (b n++[e]))):
  (∃us,RfAt (W9.setCell ⟨P,1+n,none⟩ v9) P n us (a1n b n e)/\a6U w (W9.setCell ⟨P,1+n,none⟩ v9) b (a1n b n e) vs us/\Off [P] w (W9.setCell ⟨P,1+n,none⟩ v9))/\W9.cell? ⟨P,1+n,none⟩=some (vs n)/\W9.frozen? ⟨P,1+n,none⟩=false:=by
 have hP9:=(Below.block hk P h.lt).trans h.1
 have hsz:=Below.size hk;have hsw:=hw.size;have hadd:a1n b n e n=b n++[e]:=by unfold a1n;rw[a5S]
 have hado:∀i,i≠n->a1n b n e i=b i:=fun i hi=>by unfold a1n;rw[a58 _ _ hi]
 refine⟨⟨a19 vs n v9,⟨?_,fun i hi=>?_⟩,fun i hi h0 g hg=>?_,((Off.of_below hw).trans (Off.of_below hk)).set _ _⟩,?_,by simp[World.frozen?,hP9]⟩
 ·rw[a6L hP9];congr 1;unfold a19;rcases (show n=0\/n=1\/n=2\/n=3 by omega)with rfl|rfl|rfl|rfl<;>simp
 ·by_cases hin:i=n
  ·subst hin;rw[a11,hadd];have hl:EntsAt W9 v9 (b i++[e]):=ListAt.ents (a1z hr (Nat.zero_le _)) (by rw[List.length_append,List.length_singleton];omega);exact hl.keep fun _ g hg=>Below.heap_setCell _ _ _ g (by have:=(hr.lt g hg).1;show g≠P;omega)
  rw[a0w _ _ hin,hado i hin];refine(h.2 i hi).keep fun h0 g hg=>?_
  have hgl:=(h.2 i hi).lt h0 hg
  exact(Below.heap_setCell _ _ _ g (fun e2=>hne i hi h0 (by rw[hg,e2]))).trans (Below.block hk g hgl)
 ·by_cases hin:i=n
  ·subst hin;rw[a11]at hg;have:=hr.lt g hg;exact .inr ⟨by omega,by rw[World.size_setCell];exact this.2⟩
  rw[a0w _ _ hin]at hg;rw[hado i hin]at h0;exact .inl ⟨i,hi,h0,hg⟩
 rcases (show n=0\/n=1\/n=2\/n=3 by omega)with rfl|rfl|rfl|rfl<;>exact heap_cell hP9 rfl
theorem KB.grown{w W W':World}{g:Nat}(h:KB w W)(hg:W.grownBy W' (some g))(hw:w.heap.size<=g):KB w W':=Below.grown h hg (Below.size h) (fun k e=>by injection e with e;omega)
structure KQ(P:Nat)(v:Value)(w W:World):Prop where
 off:Off [P] w W
 num:W.cell? ⟨P,0,none⟩=some v
 lt:P<W.heap.size
theorem KQ.drew{P:Nat}{v:Value}{w W:World}(h:KQ P v w W):KQ P v w W.drew:=⟨h.off.drew,h.num,h.lt⟩
theorem KQ.alloc{P:Nat}{v:Value}{w W:World}(h:KQ P v w W)(o:Obj):KQ P v w (W.alloc o):=
 ⟨h.off.alloc o,(World.cell?_of_block (Below.heap_alloc _ _ _ (by exact h.lt))).trans h.num,by have:=h.lt;simp;omega⟩
theorem KQ.of_kb{P:Nat}{v:Value}{w W:World}(h:KB w W)(hv:w.cell? ⟨P,0,none⟩=some v):KQ P v w W:=
 ⟨Off.of_below h,keep_cell h hv,Nat.lt_of_lt_of_le (World.block_lt_of_cell? _ _ hv) (Below.size h)⟩
theorem KQ.set{P:Nat}{v:Value}{w W:World}(h:KQ P v w W)(j:Nat)(x:Value):KQ P v w (W.setCell ⟨P,1+j,none⟩ x):=by
 refine⟨h.off.set _ _,?_,by rw[World.size_setCell];exact h.lt⟩;rw[<-h.num];exact World.cell?_setCell_other _ _ _ _ (by intro e;injection e with _ e;omega)
theorem KQ.cell{P:Nat}{v:Value}{w W:World}(h:KQ P v w W){b j:Nat}{x:Value}(hb:b≠P)(hc:w.cell? ⟨b,j,none⟩=some x):W.cell? ⟨b,j,none⟩=some x:=
 (World.cell?_of_block (h.off.block b (World.block_lt_of_cell? _ _ hc) (by simpa using hb))).trans hc
theorem ajG(P n:Nat)(hn:n<4)(vs:Nat->Value)(b:Book)(line:ByteArray)(hs:line.size<=1000000)(w:World)(h:RfAt w P n vs b)(hok:a08 b)(hne:∀i,i<4->0<(b i).length->(vs i).ownBlock≠some P):
  Calls Tryz.prog 28 #[.pointer (some ⟨P,0,none⟩),.string line] w (ado P n vs b (doB b n line) w):=by
 have HDB:=hid (ajF b n line);obtain⟨D,hD⟩:∃D,D=doB b n line:=⟨_,rfl⟩
 rw[<-hD]at HDB⊢;clear hD;obtain⟨ra,re,rl,hr⟩:∃ra re rl,a1c (a0r (allB b) []) line=((ra,re),rl):=⟨_,_,_,rfl⟩
 rw[hr]at HDB;have HR:=hid hr;have HSY:=hid (aac P n vs b w h hok);have HLA:Hid ((allB b).length<=240):=hid (by rw[a10];exact a1w hok);have HRF:=hid h;have HOK:=hid hok;have HNE:=hid hne;clear hr h hok hne;by_cases h100:re=100
 ·have HD1:Hid (D=(emp,100,b)):=hid (by rw[HDB.out,if_pos h100]);subst h100;go_enter Tryz.func28,Tryz.ntmps28;go_wp2_with fail
  refine HSY.out.mono ?_;rintro e w1 ⟨B,rfl,hsy,hb1⟩
  have HDE:=hid (a32 w.heap.size B (a0r (allB b) []) line hs w1 hsy (by
   have h9:=a1R (allB b) [];simp only[List.length_nil]at h9;have:=HLA.out;omega) (a2u _ (by have:=HLA.out;omega)))
  unfold a2R at HDE;rw[HR.out]at HDE;go_wp2_with fail
  refine HDE.out.mono ?_;rintro e w2 ⟨rfl,hs2,ht2⟩;have HB2:=hid (hb1.trans (ht2.below (by obtain⟨_,_,_,h8⟩:=hsy;exact h8.low) hb1.size));clear hsy hb1 hs2 ht2;go_wp2;go_ret2;rw[HD1.out];exact⟨rfl,a5L HRF.out HB2.out⟩
 have hre:((re:Int)==100)=false:=by rw[beq_eq_false_iff_ne];exact h100
 have HD1:Hid (D=if 60<=(b n).length\/1000000<=cntB b then (emp,4,b)else if re=0 then (ra,0,a1n b n (newE b n line))else (emp,re,b)):=hid (by rw[HDB.out,if_neg h100]);have hlen:=(HOK.out n hn).len
 have hcnt:=a3f HOK.out;have hn4:(n:Int)<4:=by omega
 have hn0:(0:Int)<=(n:Int):=by omega
 obtain⟨len,hlen2⟩:∃len,len=(b n).length:=⟨_,rfl⟩
 have HLN:=hid hlen2;obtain⟨ct,hct⟩:∃ct,ct=cntB b:=⟨_,rfl⟩
 have HCT:=hid hct;rw[<-hlen2]at hlen HD1;rw[<-hct]at hcnt HD1;clear hlen2 hct h100 HDB;have HCO:=hid (fun W (h:RfAt W P n vs b)=>aeV P n vs b W h HOK.out);rw[<-HCT.out]at HCO;by_cases h60:60<=len
 ·have HD2:Hid (D=(emp,4,b)):=hid (by rw[HD1.out,if_pos (.inl h60)]);have h60i:(60:Int)<=(len:Int):=by omega
  clear HD1 h60;go_enter Tryz.func28,Tryz.ntmps28;go_wp2_with fail
  refine HSY.out.mono ?_;rintro e w1 ⟨B,rfl,hsy,hb1⟩
  have HDE:=hid (a32 w.heap.size B (a0r (allB b) []) line hs w1 hsy (by
   have h9:=a1R (allB b) [];simp only[List.length_nil]at h9;have:=HLA.out;omega) (a2u _ (by have:=HLA.out;omega)))
  unfold a2R at HDE;rw[HR.out]at HDE;go_wp2_with fail
  refine HDE.out.mono ?_;rintro e w2 ⟨rfl,hs2,ht2⟩;have HB2:=hid (hb1.trans (ht2.below (by obtain⟨_,_,_,h8⟩:=hsy;exact h8.low) hb1.size));clear hsy hb1 hs2 ht2;have HR2:=hid (HRF.out.below HB2.out);have c0:=heap_cell (j:=0) HR2.out.1 rfl;have c1:=HR2.out.cell hn;obtain⟨a,cap,hv⟩:=(HR2.out.2 n hn).shape
  rw[hv,<-HLN.out]at c1;clear hv;go_wp2;go_quiet (fail)
  have HB3:=hid (a0d HB2.out nq);go_wp2;go_ret2;rw[HD2.out];exact⟨rfl,a5L HRF.out HB3.out⟩
 have h60i:¬(60:Int)<=(len:Int):=by omega
 by_cases hct6:1000000<=ct
 ·have HD2:Hid (D=(emp,4,b)):=hid (by rw[HD1.out,if_pos (.inr hct6)]);clear HD1 h60;go_enter Tryz.func28,Tryz.ntmps28;go_wp2_with fail
  refine HSY.out.mono ?_;rintro e w1 ⟨B,rfl,hsy,hb1⟩
  have HDE:=hid (a32 w.heap.size B (a0r (allB b) []) line hs w1 hsy (by
   have h9:=a1R (allB b) [];simp only[List.length_nil]at h9;have:=HLA.out;omega) (a2u _ (by have:=HLA.out;omega)))
  unfold a2R at HDE;rw[HR.out]at HDE;go_wp2_with fail
  refine HDE.out.mono ?_;rintro e w2 ⟨rfl,hs2,ht2⟩;have HB2:=hid (hb1.trans (ht2.below (by obtain⟨_,_,_,h8⟩:=hsy;exact h8.low) hb1.size));clear hsy hb1 hs2 ht2;have HR2:=hid (HRF.out.below HB2.out);have c0:=heap_cell (j:=0) HR2.out.1 rfl;have c1:=HR2.out.cell hn;obtain⟨a,cap,hv⟩:=(HR2.out.2 n hn).shape
  rw[hv,<-HLN.out]at c1;clear hv;go_wp2;go_quiet (fail)
  have HB3:=hid (a0d HB2.out nq);go_wp2_with fail
  refine(HCO.out _ (HRF.out.below HB3.out)).mono ?_
  rintro e w4 ⟨rfl,rfl⟩;go_wp2;go_ret2;rw[HD2.out];exact⟨rfl,a5L HRF.out HB3.out⟩
 have hct6i:¬1000000<=ct:=hct6;have HD2:Hid (D=if re=0 then (ra,0,a1n b n (newE b n line))else (emp,re,b)):=hid (by rw[HD1.out,if_neg (by omega)]);clear HD1;by_cases h0:re=0
 ·have HD3:Hid (D=(ra,0,a1n b n (newE b n line))):=hid (by rw[HD2.out,if_pos h0]);subst h0;clear HD2;go_enter Tryz.func28,Tryz.ntmps28;go_wp2_with fail
  refine HSY.out.mono ?_;rintro e w1 ⟨B,rfl,hsy,hb1⟩
  have HDE:=hid (a32 w.heap.size B (a0r (allB b) []) line hs w1 hsy (by
   have h9:=a1R (allB b) [];simp only[List.length_nil]at h9;have:=HLA.out;omega) (a2u _ (by have:=HLA.out;omega)))
  unfold a2R at HDE;rw[HR.out]at HDE;go_wp2_with fail
  refine HDE.out.mono ?_;rintro e w2 ⟨rfl,hs2,ht2⟩;have HB2:=hid (hb1.trans (ht2.below (by obtain⟨_,_,_,h8⟩:=hsy;exact h8.low) hb1.size));clear hsy hb1 hs2 ht2;have HR2:=hid (HRF.out.below HB2.out);have c0:=heap_cell (j:=0) HR2.out.1 rfl;have c1:=HR2.out.cell hn;obtain⟨a,cap,hv⟩:=(HR2.out.2 n hn).shape
  rw[hv,<-HLN.out]at c1;have HVN:=hid hv;clear hv;go_wp2;go_quiet (fail)
  have HB3:=hid (a0d HB2.out nq);go_wp2_with fail
  refine(HCO.out _ (HRF.out.below HB3.out)).mono ?_
  rintro e w4 ⟨rfl,rfl⟩;go_wp2;refine a8T (fun W5 hX5=>?_);have HX5:=hid hX5;have HB5:Hid (Below w.heap.size w W5):=hid (HB2.out.trans (hX5.mono HB2.out.size));have HR5:=hid (HRF.out.below HB5.out);have HC5:=hid (fun W (hW:KB W5 W)=>HCO.out W (HR5.out.below hW));have r0:∀W,KB W5 W->W.cell? ⟨P,0,none⟩=some (.int .i64 (n:Int)):=fun W hW=>keep_cell hW (heap_cell HR5.out.1 rfl);have v1:IntKind.i64.wrap ((len:Int)+1)=(len:Int)+1:=IntWalk.i64_in _ (by omega);have v2:IntKind.i64.wrap (ct+1)=ct+1:=IntWalk.i64_in _ (by omega);clear c0 c1 HR2 hX5;go_cut [9] (fun s9 wx=>∃g,s9= .pointer (some ⟨g,0,none⟩)/\W5.heap.size<=g/\wx.heap[g]? =some (.cells #[.int .i64 (n:Int),.int .i64 ((len:Int)+1),.int .i64 (ct+1),.string line] 43 (0,0))/\KB W5 wx)
  case first=>
   go_region_held3 (fun W=>KB W5 W) (first|exact KB.drew (KB.refl _)|assumption|(unfold KB at *;repeat (first|assumption|exact Below.refl _ _|refine Below.setCell ?_ (by first|omega|(simp;done)|(simp;omega)) _|refine Below.drew ?_ |refine Below.alloc ?_ (by first|omega|(simp;done)|(simp;omega)) _))|fail) (first
    |(go_at_call 61;refine(HC5.out _ (by first|exact KB.drew (KB.refl _)|assumption|(unfold KB;exact(Below.refl _ _).alloc (Nat.le_refl _) _)|(unfold KB;exact((Below.refl _ _).alloc (Nat.le_refl _) _).drew))).mono ?_;rintro e w2 ⟨rfl,rfl⟩)
    |fail)
   all_goals (go_wp2_with fail;go_meet)
   all_goals exact⟨_,rfl,Nat.le_refl _,World.alloc_heap_new W5 _,KB.drew (KB.alloc (KB.refl _) _)⟩
  case rest=>
   obtain⟨ge,rfl,hge,hcells,hk⟩:=hcut;have HGE:=hid hcells;have HKB:=hid hk;have HRX:=hid (HR5.out.below hk);have HPW:Hid (P<w.heap.size):=hid HRF.out.lt
   have HPE:Hid (ge≠P):=hid (by
    have h1:=HRF.out.lt;have h2:=HB5.out.size;omega)
   have HN0:Hid (wc.cell? ⟨P,0,none⟩=some (.int .i64 (n:Int))):=hid (heap_cell HRX.out.1 rfl);have HWC:Hid (Below w.heap.size w wc):=hid (HB5.out.trans (Below.mono hk HB5.out.size));have HEX:Hid (EntsAt wc (.slice a len cap) (b n)):=hid (by have h9:=HRX.out.2 n hn;rw[HVN.out,<-HLN.out]at h9;exact h9);have q0:∀W,KQ P (.int .i64 (n:Int)) wc W->W.cell? ⟨P,0,none⟩=some (.int .i64 (n:Int)):=fun W hW=>hW.num;have q1:∀W,KQ P (.int .i64 (n:Int)) wc W->W.cell? ⟨ge,0,none⟩=some (.int .i64 (n:Int)):=fun W hW=>hW.cell HPE.out (heap_cell HGE.out rfl);have q2:∀W,KQ P (.int .i64 (n:Int)) wc W->W.cell? ⟨ge,1,none⟩=some (.int .i64 ((len:Int)+1)):=fun W hW=>hW.cell HPE.out (heap_cell HGE.out rfl);have q3:∀W,KQ P (.int .i64 (n:Int)) wc W->W.cell? ⟨ge,2,none⟩=some (.int .i64 (ct+1)):=fun W hW=>hW.cell HPE.out (heap_cell HGE.out rfl);have q4:∀W,KQ P (.int .i64 (n:Int)) wc W->W.cell? ⟨ge,3,none⟩=some (.string line):=fun W hW=>hW.cell HPE.out (heap_cell HGE.out rfl);have hk0:KQ P (.int .i64 (n:Int)) wc wc:=KQ.of_kb (KB.refl _) HN0.out;obtain⟨e0,he0⟩:∃e0,e0=newE b n line:=⟨_,rfl⟩
   have HEC:Hid (entC e0=[.int .i64 (n:Int),.int .i64 ((len:Int)+1),.int .i64 (ct+1),.string line]):=hid (by rw[he0,HLN.out,HCT.out];rfl);rw[<-he0]at HD3;have HLW:Hid ((b n).length<=60):=hid (by rw[<-HLN.out];exact hlen);have HEND:=hid (fun W9 v9 hk hr=>do_end (W9:=W9) (v9:=v9) (e:=e0) hn HLW.out HWC.out HRX.out HPW.out HNE.out hk hr);clear r0 v1 v2 hcells hk hge HC5 he0;obtain⟨W6a,hW6a⟩:∃W6,W6=(wc.alloc (.cells #[] 43)).drew:=⟨_,rfl⟩
   have HK6a:Hid (KB wc W6a):=hid (by rw[hW6a];repeat (first|exact KB.refl _|refine KB.drew ?_ |refine KB.alloc ?_ _));have HE6a:Hid (W6a.heap[wc.heap.size]? =some (.cells #[] 43 (0,0))):=hid (by rw[hW6a];exact World.alloc_heap_new wc _);have HAa:=hid (fun ty=>a6N wc.heap.size HE6a.out (by omega) HLN.out (HEX.out.below HK6a.out) (by omega) ty);have HW6a:=hid hW6a;obtain⟨W6b,hW6b⟩:∃W6,W6=((wc.alloc (.cells #[] 43)).alloc (.cells #[.int .i64 (n:Int),.int .i64 ((len:Int)+1),.int .i64 (ct+1),.string line] 43)).drew:=⟨_,rfl⟩
   have HK6b:Hid (KB wc W6b):=hid (by rw[hW6b];repeat (first|exact KB.refl _|refine KB.drew ?_ |refine KB.alloc ?_ _));have HE6b:Hid (W6b.heap[wc.heap.size]? =some (.cells #[] 43 (0,0))):=hid (by rw[hW6b];exact(Below.heap_alloc _ _ _ (by simp)).trans (World.alloc_heap_new wc _));have HAb:=hid (fun ty=>a6N wc.heap.size HE6b.out (by omega) HLN.out (HEX.out.below HK6b.out) (by omega) ty);have HW6b:=hid hW6b;obtain⟨W6c,hW6c⟩:∃W6,W6=((wc.alloc (.cells #[.int .i64 (n:Int),.int .i64 ((len:Int)+1),.int .i64 (ct+1),.string line] 43)).alloc (.cells #[] 43)).drew:=⟨_,rfl⟩
   have HK6c:Hid (KB wc W6c):=hid (by rw[hW6c];repeat (first|exact KB.refl _|refine KB.drew ?_ |refine KB.alloc ?_ _));have HE6c:Hid (W6c.heap[wc.heap.size+1]? =some (.cells #[] 43 (0,0))):=hid (by rw[hW6c];exact by have h9:=World.alloc_heap_new (wc.alloc (.cells #[.int .i64 (n:Int),.int .i64 ((len:Int)+1),.int .i64 (ct+1),.string line] 43)) (.cells #[] 43);rw[World.size_alloc]at h9;exact h9);have HAc:=hid (fun ty=>a6N wc.heap.size HE6c.out (by omega) HLN.out (HEX.out.below HK6c.out) (by omega) ty);have HW6c:=hid hW6c;have HNB:Hid (W6b.heap[wc.heap.size+1]? =some (.cells #[.int .i64 (n:Int),.int .i64 ((len:Int)+1),.int .i64 (ct+1),.string line] 43 (0,0))):=hid (by rw[hW6b];exact(by have h9:=World.alloc_heap_new (wc.alloc (.cells #[] 43)) (.cells #[.int .i64 (n:Int),.int .i64 ((len:Int)+1),.int .i64 (ct+1),.string line] 43);rw[World.size_alloc]at h9;exact h9));have HNC:Hid (W6c.heap[wc.heap.size]? =some (.cells #[.int .i64 (n:Int),.int .i64 ((len:Int)+1),.int .i64 (ct+1),.string line] 43 (0,0))):=hid (by rw[hW6c];exact(Below.heap_alloc _ _ _ (by simp)).trans (World.alloc_heap_new wc _));clear hW6a hW6b hW6c;go_wp2
   go_region_held3 (fun W=>KQ P (.int .i64 (n:Int)) wc W) (repeat (first|(with_reducible assumption)|(with_reducible refine KQ.drew ?_)|(with_reducible refine KQ.alloc ?_ _)|(with_reducible refine KQ.set ?_ _ _))) (first
    |((rw[<-HW6a.out];refine a0v (by rfl) _ _ _ (by rfl) (.slice (some ⟨wc.heap.size,0,none⟩) 0 0) (.slice a len cap) (by rfl) (by rfl) (App1 wc.heap.size wc.heap.size (b n) W6a) (HAa.out _) ?_;intro v7 W7 hR;obtain⟨g7,k7,rfl⟩:=hR.is;have hk7:KB wc W7:=HK6a.out.grown hR.grown (Nat.le_refl _);have HK7:=hid hk7;have hq7:KQ P (.int .i64 (n:Int)) wc W7:=KQ.of_kb hk7 HN0.out;have HR7:=hid hR.row;obtain⟨W8,hW8⟩:∃W8,W8=W7.alloc (.cells #[.int .i64 (n:Int),.int .i64 ((len:Int)+1),.int .i64 (ct+1),.string line] 43):=⟨_,rfl⟩;have HKa8:Hid (KB wc W8):=hid (by rw[hW8];exact hk7.alloc _);have HR8:Hid (W8.ownsRow wc.heap.size 43 4 (.slice (some ⟨g7,0,none⟩) (b n).length k7) (b n).length (rowE (b n))):=hid (by rw[hW8];exact hR.row.alloc _);have HBa:=hid (fun ty=>a5M HR8.out (Below.size HKa8.out) (by have:=HLW.out;omega) (ge:=W7.heap.size) (e:=e0) (by rw[hW8];exact World.alloc_heap_new W7 _) HEC.out ty);have hq8:KQ P (.int .i64 (n:Int)) wc W8:=KQ.of_kb HKa8.out HN0.out;have HW8:=hid hW8;have HG7:=hid (hR.row.lt g7 rfl).1;rw[<-HLN.out]at HBa;rw[<-HLN.out];clear hR hW8))
    |((rw[<-HW6b.out];refine a0v (by rfl) _ _ _ (by rfl) (.slice (some ⟨wc.heap.size,0,none⟩) 0 0) (.slice a len cap) (by rfl) (by rfl) (App1 wc.heap.size wc.heap.size (b n) W6b) (HAb.out _) ?_;intro v7 W7 hR;obtain⟨g7,k7,rfl⟩:=hR.is;have hk7:KB wc W7:=HK6b.out.grown hR.grown (Nat.le_refl _);have HK7:=hid hk7;have hq7:KQ P (.int .i64 (n:Int)) wc W7:=KQ.of_kb hk7 HN0.out;have HBb:=hid (fun ty=>a5M hR.row (Below.size hk7) (by have:=HLW.out;omega) (ge:=wc.heap.size+1) (e:=e0) ((hR.grown.block (wc.heap.size+1) (Array.getElem?_eq_some_iff.1 HNB.out).1 (fun e=>by injection e with e;omega)).trans HNB.out) HEC.out ty);have HG7:=hid (hR.row.lt g7 rfl).1;rw[<-HLN.out]at HBb;rw[<-HLN.out];clear hR))
    |((rw[<-HW6c.out];refine a0v (by rfl) _ _ _ (by rfl) (.slice (some ⟨wc.heap.size+1,0,none⟩) 0 0) (.slice a len cap) (by rfl) (by rfl) (App1 wc.heap.size (wc.heap.size+1) (b n) W6c) (HAc.out _) ?_;intro v7 W7 hR;obtain⟨g7,k7,rfl⟩:=hR.is;have hk7:KB wc W7:=HK6c.out.grown hR.grown (Nat.le_succ _);have HK7:=hid hk7;have hq7:KQ P (.int .i64 (n:Int)) wc W7:=KQ.of_kb hk7 HN0.out;have HBc:=hid (fun ty=>a5M hR.row (Below.size hk7) (by have:=HLW.out;omega) (ge:=wc.heap.size) (e:=e0) ((hR.grown.block wc.heap.size (Array.getElem?_eq_some_iff.1 HNC.out).1 (fun e=>by injection e with e;omega)).trans HNC.out) HEC.out ty);have HG7:=hid (hR.row.lt g7 rfl).1;rw[<-HLN.out]at HBc;rw[<-HLN.out];clear hR))
    |((rw[<-HW8.out];refine a0v (by rfl) _ _ _ (by rfl) (.slice (some ⟨g7,0,none⟩) len k7) (.slice (some ⟨W7.heap.size,0,none⟩) 1 1) (by rfl) (by rfl) (App2 wc.heap.size (.slice (some ⟨g7,0,none⟩) len k7) (b n) e0 W8) (HBa.out _) ?_;intro v9 W9 hR;have hk9:KB wc W9:=HKa8.out.grown hR.grown HG7.out;have HE9:=hid (HEND.out W9 v9 hk9 hR.row);have hq9:KQ P (.int .i64 (n:Int)) wc W9:=KQ.of_kb hk9 HN0.out;obtain⟨g9,k9,rfl⟩:=hR.is;obtain⟨_,c9,f9⟩:=HE9.out;clear hR))
    |((refine a0v (by rfl) _ _ _ (by rfl) (.slice (some ⟨g7,0,none⟩) len k7) (.slice (some ⟨wc.heap.size+1,0,none⟩) 1 1) (by rfl) (by rfl) (App2 wc.heap.size (.slice (some ⟨g7,0,none⟩) len k7) (b n) e0 W7) (HBb.out _) ?_;intro v9 W9 hR;have hk9:KB wc W9:=HK7.out.grown hR.grown HG7.out;have HE9:=hid (HEND.out W9 v9 hk9 hR.row);have hq9:KQ P (.int .i64 (n:Int)) wc W9:=KQ.of_kb hk9 HN0.out;obtain⟨g9,k9,rfl⟩:=hR.is;obtain⟨_,c9,f9⟩:=HE9.out;clear hR))
    |((refine a0v (by rfl) _ _ _ (by rfl) (.slice (some ⟨g7,0,none⟩) len k7) (.slice (some ⟨wc.heap.size,0,none⟩) 1 1) (by rfl) (by rfl) (App2 wc.heap.size (.slice (some ⟨g7,0,none⟩) len k7) (b n) e0 W7) (HBc.out _) ?_;intro v9 W9 hR;have hk9:KB wc W9:=HK7.out.grown hR.grown HG7.out;have HE9:=hid (HEND.out W9 v9 hk9 hR.row);have hq9:KQ P (.int .i64 (n:Int)) wc W9:=KQ.of_kb hk9 HN0.out;obtain⟨g9,k9,rfl⟩:=hR.is;obtain⟨_,c9,f9⟩:=HE9.out;clear hR))
    |fail)
   all_goals
    go_wp2;go_ret2;rw[HD3.out];exact⟨rfl,HE9.out.1⟩
 have HD3:Hid (D=(emp,re,b)):=hid (by rw[HD2.out,if_neg h0]);have hre0:((re:Int) != 0)=true:=by rw[bne_iff_ne];exact h0
 clear HD2 h0;go_enter Tryz.func28,Tryz.ntmps28;go_wp2_with fail
 refine HSY.out.mono ?_;rintro e w1 ⟨B,rfl,hsy,hb1⟩
 have HDE:=hid (a32 w.heap.size B (a0r (allB b) []) line hs w1 hsy (by
  have h9:=a1R (allB b) [];simp only[List.length_nil]at h9;have:=HLA.out;omega) (a2u _ (by have:=HLA.out;omega)))
 unfold a2R at HDE;rw[HR.out]at HDE;go_wp2_with fail
 refine HDE.out.mono ?_;rintro e w2 ⟨rfl,hs2,ht2⟩;have HB2:=hid (hb1.trans (ht2.below (by obtain⟨_,_,_,h8⟩:=hsy;exact h8.low) hb1.size));clear hsy hb1 hs2 ht2;have HR2:=hid (HRF.out.below HB2.out);have c0:=heap_cell (j:=0) HR2.out.1 rfl;have c1:=HR2.out.cell hn;obtain⟨a,cap,hv⟩:=(HR2.out.2 n hn).shape
 rw[hv,<-HLN.out]at c1;clear hv;go_wp2;go_quiet (fail)
 have HB3:=hid (a0d HB2.out nq);go_wp2_with fail
 refine(HCO.out _ (HRF.out.below HB3.out)).mono ?_
 rintro e w4 ⟨rfl,rfl⟩;go_wp2;go_ret2;rw[HD3.out];exact⟨rfl,a5L HRF.out HB3.out⟩
end Go.Proofs.YtdfkaijeppdhaaaGreatDoor
