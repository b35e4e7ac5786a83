/- Part of the proof. -/
import Derived.Test.YtdfkaijeppdhaaaGreatDoorZHs42
import Derived.Test.YtdfkaijeppdhaaaGreatDoorZHs43
set_option maxRecDepth 100000
set_option maxHeartbeats 8000000

namespace Go.Proofs.YtdfkaijeppdhaaaGreatDoor
open Lib (hid)
open Proofs.Tryz Go.RowKit Go.Shelf
section
variable{base:Nat}{w w':World}{m r:Nat}{P n R k:Nat->Nat}{B C:Nat->a00}{X:List Nat}
theorem aoe(h:DuoL base w X m P n B r R k C){i:Nat}(hi:i<m)(line:ByteArray)(hs:line.size<=1000000):
  Calls prog 36 #[.pointer (some ⟨P i,0,none⟩),.string line] w (a0J (a0k (B i) line) w):=by
 obtain⟨F,h1⟩:=h.post hi;exact ano _ _ F _ line hs w h1 (h.ok hi) h.vars
theorem ao2(h:DuoL base w X m P n B r R k C){j:Nat}(hj:j<r)(line:ByteArray)(hs:line.size<=1000000):
  Calls prog 43 #[.pointer (some ⟨R j,0,none⟩),.string line] w (a0J (a0k (C j) line) w):=by
 obtain⟨vs,h1,_⟩:=h.ref hj;exact am6 _ _ vs _ line hs w h1 (h.rok hj)
theorem ako(h:DuoL base w X m P n B r R k C){i:Nat}(hi:i<m)(s:ByteArray)(hs:s.size<=4000000000):
  Calls prog 44 #[.pointer (some ⟨P i,0,none⟩),.string s] w (a8V base X m P n (upN B i (a3X (B i) s).2) r R k C (.int .i64 (a3X (B i) s).1) w):=by
 obtain⟨F,G,h0⟩:=h;have ho:=h0.ok i hi;refine(akl (P i) (n i) (F i) (B i) s hs w (h0.posts.post i hi) ho.1 h0.posts.vars).mono ?_
 rintro e w' ⟨rfl,F',k1,k2,k3⟩;exact⟨rfl,h0.turn hi (ama ho.1 s) k1 k2 k3⟩
theorem aeO(h:DuoL base w X m P n B r R k C){j:Nat}(hj:j<r){us:Nat->Value}{c:a00}(hu:∀i,i<4->EntsAt w (us i) (c i))(hc:a02 c):
  Calls prog 27 #[.pointer (some ⟨R j,0,none⟩),.agg #[us 0,us 1,us 2,us 3]] w (a8V base X m P n B r R k (upN C j (a0L (C j) c).2) (.bool (decide ((a0L (C j) c).1=0))) w):=by
 obtain⟨F,G,h0⟩:=h;have ho:=h0.rok j hj;obtain⟨vs,h1,h2⟩:=h0.refs j hj;refine(acj (R j) (k j) vs (C j) us c w h1 hu ho.1 hc (fun i hi h5 e=>h0.roff j j hj hj (h2 i hi h5 _ e)) (fun i hi h5=>aeL h1 (hu i hi) h5)).mono ?_
 rintro e w' ⟨rfl,us',k1,k2,k3⟩;exact⟨rfl,h0.rturn hj (a5C ho.1 hc) k1.rp (a9C h0 hj h2 k2) k3⟩
theorem is_d(h:DuoL base w X m P n B r R k C){i j:Nat}(hi:i<m)(hj:j<r)(hn:n i=k j)(hb:BookEq (B i) (C j)):
  Calls prog 45 #[.pointer (some ⟨P i,0,none⟩),.pointer (some ⟨R j,0,none⟩)] w (a4A true w):=by
 obtain⟨vs,hv,_⟩:=h.ref hj;have c0:∀W,KB w W->W.cell? ⟨R j,0,none⟩=some (.int .i64 (n i:Nat)):=fun W hW=>keep_cell hW (by rw[hn];exact heap_cell hv.1 rfl);have hA:=hb.all;have hCn:a1f (C j)=a1f (B i):=hb.cnt.symm;have HN1:=hid (fun W (hW:KB w W)=>(alb (h.below hW) hi).mono (fun e w' hx=>show e= .returned (.int .i64 (n i:Nat))/\Below W.heap.size W w' from⟨hx.1,hx.2▸aoi _ _⟩));have HC1:=hid (fun W (hW:KB w W)=>(amO (h.below hW) hi).mono (fun e w' hx=>show e= .returned (.int .i64 (a1f (B i)))/\Below W.heap.size W w' from⟨hx.1,hx.2▸aoi _ _⟩));have HC2:=hid (fun W (hW:KB w W)=>(ala (h.below hW) hj).mono (fun e w' hx=>show e= .returned (.int .i64 (a1f (B i)))/\Below W.heap.size W w' from⟨by rw[hx.1,hCn],hx.2▸aoi _ _⟩));have HB1:=hid (fun W (hW:KB w W)=>anF (h.below hW) hi);have HB2:=hid (fun W (hW:KB w W)=>amN (h.below hW) hj);rw[<-hA]at HB2;have HS1:=hid (fun W (hW:KB w W)=>(anG (h.below hW) hi).mono (fun e w' hx=>show e= .returned (aat (B i))/\Below W.heap.size W w' from hx));have HS2:=hid (fun W (hW:KB w W)=>(amP (h.below hW) hj).mono (fun e w' hx=>show e= .returned (aat (B i))/\Below W.heap.size W w' from⟨hx.1.trans (by rw[<-hb 0 om,<-hb 1 om,<-hb 2 om,<-hb 3 om];rfl),hx.2⟩));have hsl:=akn (h.ok hi);have HLN:Hid ((a06 (B i)).length<=1000):=hid (by rw[a1j];exact aor (a1X (h.ok hi)) om);generalize a06 (B i)=l at *;generalize a1f (B i)=ct at *;unfold aat at hsl HS1 HS2;generalize (B i 0).length=l0 at *
 generalize (B i 1).length=l1 at *
 generalize (B i 2).length=l2 at *
 generalize (B i 3).length=l3 at *
 generalize n i=ni at *;generalize P i=Pi at *;generalize R j=Rj at *;clear h hv hn hb hA hCn;go_enter func45,ntmps45;go_wp2;refine wp_region_held_drew (S:=KB w) ot (KB.drew (KB.refl _)) (fun hHeld=>?_);refine tk [0,2,3,4,5] ?_;repeat (refine tkC hHeld (h:=?_);apply exq;(· intro W3 hS3;go_simp;try rfl);try simp only[gS])
 with_reducible refine tkE ?_
 refine rdy 1 (h:=fun K hK=>?_);go_simp;refine(HN1.out _ hHeld).mono ?_
 rintro e w1 ⟨rfl,hb⟩;have hk2:=KB.call hHeld hb;try dsimp only
 refine hK.out _ _ hk2 (fun hHeld=>?_);clear hK K hk2;try simp only[gS]
 clear hb;refine tk [6,7,8,10] ?_;repeat (refine tkC hHeld (h:=?_);apply exq;(· intro W3 hS3;go_simp;try rfl);try simp only[gS])
 with_reducible refine tkE ?_
 refine rdy 9 (h:=fun K hK=>?_);go_simp;refine(HC1.out _ hHeld).mono ?_
 rintro e w2 ⟨rfl,hb⟩;have hk2:=KB.call hHeld hb;try dsimp only
 refine hK.out _ _ hk2 (fun hHeld=>?_);clear hK K hk2;try simp only[gS]
 clear hb;refine rdy 11 (h:=fun K hK=>?_);go_simp;refine(HC2.out _ hHeld).mono ?_
 rintro e w3 ⟨rfl,hb⟩;have hk2:=KB.call hHeld hb;try dsimp only
 refine hK.out _ _ hk2 (fun hHeld=>?_);clear hK K hk2;try simp only[gS]
 clear hb;refine tk [12,13,14,15,17] ?_;repeat (refine tkC hHeld (h:=?_);apply exq;(· intro W3 hS3;go_simp;try rfl);try simp only[gS])
 with_reducible refine tkE ?_
 refine rdy 16 (h:=fun K hK=>?_);go_simp;refine(HB1.out _ hHeld).mono ?_
 rintro e w4 ⟨v1,rfl,hl1,_,hb⟩;have hk2:=KB.call hHeld hb;try dsimp only
 refine hK.out _ _ hk2 (fun hHeld=>?_);clear hK K hk2;try simp only[gS]
 have HL1:Hid (EntsAt w4 v1 l):=hid (hl1.ents (by have:=HLN.out;omega));clear hb hl1;refine rdy 18 (h:=fun K hK=>?_);go_simp;refine(HB2.out _ hHeld).mono ?_
 rintro e w5 ⟨v2,rfl,hl2,_,hb⟩;have hk2:=KB.call hHeld hb;try dsimp only
 refine hK.out _ _ hk2 (fun hHeld=>?_);clear hK K hk2;try simp only[gS]
 have HSM:=hid (aje v1 v2 l l w5 (HL1.out.below hb) (hl2.ents (by have:=HLN.out;omega)) HLN.out);rw[decide_eq_true (rfl:l=l)]at HSM;clear hb hl2;refine rdy 19 (h:=fun K hK=>?_);go_simp;refine(HSM.out).mono ?_
 rintro e w6 ⟨rfl,hb⟩;have hk2:=KB.call hHeld hb;try dsimp only
 refine hK.out _ _ hk2 (fun hHeld=>?_);clear hK K hk2;try simp only[gS]
 clear hb;refine tk [20,21,22,24] ?_;repeat (refine tkC hHeld (h:=?_);apply exq;(· intro W3 hS3;go_simp;try rfl);try simp only[gS])
 with_reducible refine tkE ?_
 refine rdy 23 (h:=fun K hK=>?_);go_simp;refine(HS1.out _ hHeld).mono ?_
 rintro e w7 ⟨rfl,hb⟩;have hk2:=KB.call hHeld hb;try dsimp only
 refine hK.out _ _ hk2 (fun hHeld=>?_);clear hK K hk2;try simp only[gS]
 clear hb;refine rdy 25 (h:=fun K hK=>?_);go_simp;refine(HS2.out _ hHeld).mono ?_
 rintro e w8 ⟨rfl,hb⟩;have hk2:=KB.call hHeld hb;try dsimp only
 refine hK.out _ _ hk2 (fun hHeld=>?_);clear hK K hk2;try simp only[gS]
 clear hb;refine tk [26,27,28] ?_;repeat (refine tkC hHeld (h:=?_);apply exq;(· intro W3 hS3;go_simp;try rfl);try simp only[gS])
 with_reducible refine tkE ?_
 refine wpAnyH_done ot ?_ _;try simp only[Exit.then]
 go_wp2;go_ret;exact⟨rfl,hHeld⟩
end
def pv(a:Nat)(P:Nat->Nat)(j:Nat):Value:=if j<a then .pointer (some ⟨P j,0,none⟩)else .pointer none
def ArrTo(w:World)(g:Nat)(t:TypeId)(a:Nat)(P:Nat->Nat):Prop:=w.heap[g]? =some (.cells #[pv a P 0,pv a P 1,pv a P 2,pv a P 3] t (0,0))
theorem ArrTo.cell{w:World}{g:Nat}{t:TypeId}{a:Nat}{P:Nat->Nat}(h:ArrTo w g t a P){j:Nat}(hj:j<4):w.cell? ⟨g,j,none⟩=some (pv a P j):=by
 rcases (show j=0\/j=1\/j=2\/j=3 by omega)with rfl|rfl|rfl|rfl<;>exact heap_cell h rfl
theorem ArrTo.frozen{w:World}{g:Nat}{t:TypeId}{a:Nat}{P:Nat->Nat}(h:ArrTo w g t a P)(j:Nat):w.frozen? ⟨g,j,none⟩=false:=by
 have h9:w.heap[g]? =_:=h;simp[World.frozen?,h9]
theorem ArrTo.set{w:World}{g:Nat}{t:TypeId}{a:Nat}{P:Nat->Nat}(h:ArrTo w g t a P)(ha:a<4)(x:Nat):ArrTo (w.setCell ⟨g,a,none⟩ (.pointer (some ⟨x,0,none⟩))) g t (a+1) (upN P a x):=by
 unfold ArrTo;rw[a0K h];congr 1;unfold pv upN;rcases (show a=0\/a=1\/a=2\/a=3 by omega)with rfl|rfl|rfl|rfl<;>simp
theorem ArrTo.keep{w w':World}{g:Nat}{t:TypeId}{a:Nat}{P:Nat->Nat}(h:ArrTo w g t a P)(hk:w'.heap[g]? =w.heap[g]?):ArrTo w' g t a P:=hk.trans h
theorem ArrTo.lt{w:World}{g:Nat}{t:TypeId}{a:Nat}{P:Nat->Nat}(h:ArrTo w g t a P):g<w.heap.size:=(aog.1 h).1
structure PoS(w:World)(a:Nat)(P:Nat->Nat)(b:Nat)(R:Nat->Nat)(wr:World):Prop where
 arrP:ArrTo wr (w.heap.size+2) 45 a P
 arrR:ArrTo wr (w.heap.size+3) 47 b R
 res1:wr.heap[w.heap.size]? =some (.cells #[.pointer none,.pointer none,.pointer none,.pointer none] 45 (0,0))
 res2:wr.heap[w.heap.size+1]? =some (.cells #[.pointer none,.pointer none,.pointer none,.pointer none] 47 (0,0))
 below:Below w.heap.size w wr
theorem PoS.more{w:World}{a:Nat}{P:Nat->Nat}{b:Nat}{R:Nat->Nat}{wr w':World}(h:PoS w a P b R wr)(hb:Below wr.heap.size wr w'):PoS w a P b R w':=
 ⟨h.arrP.keep (hb.block _ h.arrP.lt),h.arrR.keep (hb.block _ h.arrR.lt),(hb.block _ (aog.1 h.res1).1).trans h.res1,(hb.block _ (aog.1 h.res2).1).trans h.res2,h.below.trans (hb.mono h.below.size)⟩
theorem PoS.setP{w:World}{a:Nat}{P:Nat->Nat}{b:Nat}{R:Nat->Nat}{wr:World}(h:PoS w a P b R wr)(ha:a<4)(x:Nat):PoS w (a+1) (upN P a x) b R (wr.setCell ⟨w.heap.size+2,a,none⟩ (.pointer (some ⟨x,0,none⟩))):=
 ⟨h.arrP.set ha x,h.arrR.keep (aok _ _ _ _ oz),(aok _ _ _ _ oz).trans h.res1,(aok _ _ _ _ oz).trans h.res2,h.below.setCell (p:=⟨w.heap.size+2,a,none⟩) oz _⟩
theorem PoS.setR{w:World}{a:Nat}{P:Nat->Nat}{b:Nat}{R:Nat->Nat}{wr:World}(h:PoS w a P b R wr)(hb:b<4)(x:Nat):PoS w a P (b+1) (upN R b x) (wr.setCell ⟨w.heap.size+3,b,none⟩ (.pointer (some ⟨x,0,none⟩))):=
 ⟨h.arrP.keep (aok _ _ _ _ oz),h.arrR.set hb x,(aok _ _ _ _ oz).trans h.res1,(aok _ _ _ _ oz).trans h.res2,h.below.setCell (p:=⟨w.heap.size+3,b,none⟩) oz _⟩
theorem DuoL.setX{base:Nat}{w:World}{m r:Nat}{P n R k:Nat->Nat}{B C:Nat->a00}{X:List Nat}(h:DuoL base w X m P n B r R k C){g:Nat}(hg:g∈X)(j:Nat)(v:Value):DuoL base (w.setCell ⟨g,j,none⟩ v) X m P n B r R k C:=
 h.aside hg (by rw[aos];exact aof _) fun k _ hk=>aok _ _ _ k hk
theorem DuoL.drewn{base:Nat}{w:World}{m r:Nat}{P n R k:Nat->Nat}{B C:Nat->a00}{X:List Nat}(h:DuoL base w X m P n B r R k C):DuoL base w.drew X m P n B r R k C:=h.below (aoi _ _).drew
def idN:Nat->Nat:=fun j=>j
def a4L:Nat->a00:=fun _=>a1G
theorem amn(i:Nat):upN idN i i=idN:=by funext j;unfold upN idN;split<;>simp_all
theorem akp(i:Nat):upN a4L i a1G=a4L:=by funext j;unfold upN a4L;split<;>rfl
def X4(z:Nat):List Nat:=[z+3,z+2,z+1,z]
theorem x4_0(z:Nat):z∈X4 z:=by simp[X4]
theorem x4_1(z:Nat):z+1∈X4 z:=by simp[X4]
def akq(w:World)(e:Ending)(w':World):Prop:=∃P R:Nat->Nat,e= .returned (.tuple #[.agg #[.pointer (some ⟨P 0,0,none⟩),.pointer (some ⟨P 1,0,none⟩),.pointer (some ⟨P 2,0,none⟩),.pointer (some ⟨P 3,0,none⟩)],.agg #[.pointer (some ⟨R 0,0,none⟩),.pointer (some ⟨R 1,0,none⟩),.pointer (some ⟨R 2,0,none⟩),.pointer (some ⟨R 3,0,none⟩)],.bool true])/\
 DuoL w.heap.size w' (X4 w.heap.size) 4 P idN a4L 4 R idN a4L/\Below w.heap.size w w'
def a2K(t:TypeId):Obj:=.cells #[.pointer none,.pointer none,.pointer none,.pointer none] t
theorem afI(w:World)(hV:Vars w):DuoL w.heap.size ((((w.alloc (a2K 45)).alloc (a2K 47)).alloc (a2K 45)).alloc (a2K 47)) (X4 w.heap.size) 0 (fun _=>0) idN a4L 0 (fun _=>0) idN a4L/\
  PoS w 0 (fun _=>0) 0 (fun _=>0) ((((w.alloc (a2K 45)).alloc (a2K 47)).alloc (a2K 45)).alloc (a2K 47)):=by
 have h:=((((Duo.nil hV (fun _=>0) idN a4L (fun _=>0) idN a4L).alloc (a2K 45)).alloc (a2K 47)).alloc (a2K 45)).alloc (a2K 47)
 simp only[aoq]at h;obtain⟨w1,hw1⟩:∃w1,w1=w.alloc (a2K 45):=⟨_,rfl⟩
 have z1:w1.heap.size=w.heap.size+1:=by rw[hw1,aoq]
 have a1:w1.heap[w.heap.size]? =some (.cells #[.pointer none,.pointer none,.pointer none,.pointer none] 45 (0,0)):=by rw[hw1];exact World.alloc_heap_new w _
 obtain⟨w2,hw2⟩:∃w2,w2=w1.alloc (a2K 47):=⟨_,rfl⟩
 have z2:w2.heap.size=w.heap.size+2:=by rw[hw2,aoq,z1]
 have a2:w2.heap[w.heap.size+1]? =some (.cells #[.pointer none,.pointer none,.pointer none,.pointer none] 47 (0,0)):=by rw[hw2,<-z1];exact World.alloc_heap_new w1 _
 have b1:Below w1.heap.size w1 w2:=by rw[hw2];exact(aoi _ _).alloc (aof _) _
 obtain⟨w3,hw3⟩:∃w3,w3=w2.alloc (a2K 45):=⟨_,rfl⟩
 have z3:w3.heap.size=w.heap.size+3:=by rw[hw3,aoq,z2]
 have a3:w3.heap[w.heap.size+2]? =some (.cells #[.pointer none,.pointer none,.pointer none,.pointer none] 45 (0,0)):=by rw[hw3,<-z2];exact World.alloc_heap_new w2 _
 have b2:Below w2.heap.size w2 w3:=by rw[hw3];exact(aoi _ _).alloc (aof _) _
 obtain⟨w4,hw4⟩:∃w4,w4=w3.alloc (a2K 47):=⟨_,rfl⟩
 have a4:w4.heap[w.heap.size+3]? =some (.cells #[.pointer none,.pointer none,.pointer none,.pointer none] 47 (0,0)):=by rw[hw4,<-z3];exact World.alloc_heap_new w3 _
 have b3:Below w3.heap.size w3 w4:=by rw[hw4];exact(aoi _ _).alloc (aof _) _
 have b0:Below w.heap.size w w1:=by rw[hw1];exact(aoi _ _).alloc (aof _) _
 rw[<-hw1,<-hw2,<-hw3,<-hw4]at h⊢;refine⟨h,?_,a4,?_,?_,below_trans b0 (below_trans b1 (below_trans b2 b3))⟩
 ·exact(b3.block _ om).trans a3
 ·exact(b3.block _ om).trans ((b2.block _ om).trans ((b1.block _ om).trans a1))
 exact(b3.block _ om).trans ((b2.block _ om).trans a2)
theorem akr(w:World)(hV:Vars w):Calls prog 26 #[] w (akq w):=by
 obtain⟨hs1,hs2⟩:=afI w hV;obtain⟨w4,hw4⟩:∃w4,w4=((((w.alloc (a2K 45)).alloc (a2K 47)).alloc (a2K 45)).alloc (a2K 47)):=⟨_,rfl⟩
 rw[<-hw4]at hs1 hs2;have HD0:=hid hs1;have HP0:=hid hs2;unfold a2K at hw4;have HW4:=hid hw4;clear hs1 hs2 hw4 hV;go_enter func26,ntmps26;go_wp2_with fail
 rw[<-HW4.out];go_loopw [5] (fun i wr=>∃(k:Nat) (P R:Nat->Nat),k<=4/\i= .int .i64 k/\Hid (DuoL w.heap.size wr (X4 w.heap.size) k P idN a4L k R idN a4L)/\Hid (PoS w k P k R wr)) (fun i _=>4-(intOf i).toNat)
 case atStart=>exact⟨0,_,_,om,rfl,HD0,HP0⟩
 case round=>
  obtain⟨k,P,R,hk,rfl,HD,HP⟩:=hrel;by_cases hlt:k<4
  ·have hlt2:(k:Int)<4:=om;have hge:(0:Int)<=(k:Int):=om;have HN:=hid (ao6 HD.out (m':=k+1) (i:=k) (fun j hj=>om) k hlt);rw[amn,akp]at HN;go_wp2_with fail
   refine HN.out.mono ?_;rintro e w5 ⟨P',rfl,hd5,hb5⟩;have HD5:=hid hd5;have HP5:=hid (HP.out.more hb5);have cP:=HP5.out.arrP.cell hlt;have fP:=HP5.out.arrP.frozen k;have cR:=HP5.out.arrR.cell hlt;have fR:=HP5.out.arrR.frozen k;rw[show pv k P k= .pointer none by unfold pv;rw[if_neg (Nat.lt_irrefl k)]]at cP;rw[show pv k R k= .pointer none by unfold pv;rw[if_neg (Nat.lt_irrefl k)]]at cR;have hd5d:=HD5.out.below (aoi w5.heap.size w5).drew
   have hp5d:=HP5.out.more (aoi w5.heap.size w5).drew
   have HNA:=hid (ajm hd5d (r':=k+1) (j:=k) (fun j hj=>om) k hlt);have HPB:=hid (hp5d.setP hlt P');have hd5b:=hd5d.setX (g:=w.heap.size+2) (by unfold X4;simp) k (.pointer (some ⟨P',0,none⟩));have HNB:=hid (ajm hd5b (r':=k+1) (j:=k) (fun j hj=>om) k hlt);rw[amn,akp]at HNA HNB;have HPA:=hid hp5d;clear hd5 hb5 hd5d hd5b hp5d;go_wp2
   go_region_with (first
    |(go_at_call 46;(with_reducible refine HNA.out.mono ?_);rintro e w6 ⟨R',rfl,hd6,hb6⟩;have HD6:=hid hd6;have HQ6:=hid (HPA.out.more hb6);have xP:=HQ6.out.arrP.cell hlt;have yP:=HQ6.out.arrP.frozen k;have xR:=HQ6.out.arrR.cell hlt;have yR:=HQ6.out.arrR.frozen k;clear hd6 hb6)
    |(go_at_call 46;(with_reducible refine HNB.out.mono ?_);rintro e w6 ⟨R',rfl,hd6,hb6⟩;have HD6:=hid hd6;have HQ6:=hid (HPB.out.more hb6);have xR:=HQ6.out.arrR.cell hlt;have yR:=HQ6.out.arrR.frozen k;clear hd6 hb6)
    |fail)
   all_goals
    go_wp2;go_roundw
    case rel=>exact⟨k+1,upN P k P',upN R k R',om,by go_num,hid ((HD6.out.setX (g:=w.heap.size+2) (by unfold X4;simp) k _).setX (g:=w.heap.size+3) (by unfold X4;simp) k _),hid ((HQ6.out.setP hlt P').setR hlt R')⟩
    case measure=>simp[intOf];omega
  obtain rfl:k=4:=om;have p0:wr.cell? ⟨w.heap.size+2,0,none⟩=some (.pointer (some ⟨P 0,0,none⟩)):=HP.out.arrP.cell (j:=0) om;have p1:wr.cell? ⟨w.heap.size+2,1,none⟩=some (.pointer (some ⟨P 1,0,none⟩)):=HP.out.arrP.cell (j:=1) om;have p2:wr.cell? ⟨w.heap.size+2,2,none⟩=some (.pointer (some ⟨P 2,0,none⟩)):=HP.out.arrP.cell (j:=2) om;have p3:wr.cell? ⟨w.heap.size+2,3,none⟩=some (.pointer (some ⟨P 3,0,none⟩)):=HP.out.arrP.cell (j:=3) om;have q0:wr.cell? ⟨w.heap.size+3,0,none⟩=some (.pointer (some ⟨R 0,0,none⟩)):=HP.out.arrR.cell (j:=0) om;have q1:wr.cell? ⟨w.heap.size+3,1,none⟩=some (.pointer (some ⟨R 1,0,none⟩)):=HP.out.arrR.cell (j:=1) om;have q2:wr.cell? ⟨w.heap.size+3,2,none⟩=some (.pointer (some ⟨R 2,0,none⟩)):=HP.out.arrR.cell (j:=2) om;have q3:wr.cell? ⟨w.heap.size+3,3,none⟩=some (.pointer (some ⟨R 3,0,none⟩)):=HP.out.arrR.cell (j:=3) om;have r0:=heap_cell (j:=0) HP.out.res1 rfl;have r1:=heap_cell (j:=1) HP.out.res1 rfl;have r2:=heap_cell (j:=2) HP.out.res1 rfl;have r3:=heap_cell (j:=3) HP.out.res1 rfl;have s0:=heap_cell (j:=0) HP.out.res2 rfl;have s1:=heap_cell (j:=1) HP.out.res2 rfl;have s2:=heap_cell (j:=2) HP.out.res2 rfl;have s3:=heap_cell (j:=3) HP.out.res2 rfl;have g0:∀j,wr.frozen? ⟨w.heap.size,j,none⟩=false:=fun j=>by have h9:=HP.out.res1;simp[World.frozen?,h9]
  have g1:∀j,wr.frozen? ⟨w.heap.size+1,j,none⟩=false:=fun j=>by have h9:=HP.out.res2;simp[World.frozen?,h9]
  go_wp2;go_region_law (fail)
  all_goals go_wp2
  all_goals
   refine bodyPost_ret (v:=.tuple #[.agg #[.pointer (some ⟨P 0,0,none⟩),.pointer (some ⟨P 1,0,none⟩),.pointer (some ⟨P 2,0,none⟩),.pointer (some ⟨P 3,0,none⟩)],.agg #[.pointer (some ⟨R 0,0,none⟩),.pointer (some ⟨R 1,0,none⟩),.pointer (some ⟨R 2,0,none⟩),.pointer (some ⟨R 3,0,none⟩)],.bool true]) (by simp[results,results26,go_sem,r0,r1,r2,r3,s0,s1,s2,s3]) rfl ⟨P,R,rfl,?_,?_⟩
   ·repeat (first|with_reducible exact HD.out|with_reducible refine DuoL.drewn ?_ |with_reducible refine DuoL.setX ?_ (x4_0 _) _ _|with_reducible refine DuoL.setX ?_ (x4_1 _) _ _)
   repeat (first|with_reducible exact HP.out.below|with_reducible refine Below.drew ?_ |(with_reducible refine Below.setCell ?_ ?_ _;rotate_left;(first|exact aof _|exact aoS _)))
def KD(base:Nat)(w W:World):Prop:=Kid base w W
theorem KD.refl(base:Nat)(w:World):KD base w w:=Kid.refl _ _
theorem KD.drew{base:Nat}{w W:World}(h:KD base w W):KD base w W.drew:=Kid.trans h (Kid.of_below (aoi _ _).drew)
theorem KD.call{base:Nat}{w W w2:World}(h:KD base w W)(k:Kid base W w2):KD base w w2:=Kid.trans h k
open Go
abbrev a5v:=Int×Int×Int×ByteArray
def a5U:a5v:=(0,0,0,⟨#[]⟩)
def aks(x:a5v):Prop:=(0<=x.1/\x.1<256)/\(0<=x.2.1/\x.2.1<256)/\(0<=x.2.2.1/\x.2.2.1<256)/\x.2.2.2.size<=maxLen
def agk(w:World)(v:Value)(l:List a5v):Prop:=∃(a:Option Addr) (cap:Nat),v= .slice a l.length cap/\l.length<=maxLen/\(0<l.length->∃b off,a=some ⟨b,off,none⟩/\∀j,j<l.length->
 w.cell? ⟨b,off+j * 4,none⟩=some (.int .u8 (l.getD j a5U).1)/\w.cell? ⟨b,off+(j * 4+1),none⟩=some (.int .u8 (l.getD j a5U).2.1)/\w.cell? ⟨b,off+(j * 4+2),none⟩=some (.int .u8 (l.getD j a5U).2.2.1)/\
 w.cell? ⟨b,off+(j * 4+3),none⟩=some (.string (l.getD j a5U).2.2.2)/\aks (l.getD j a5U))
end Go.Proofs.YtdfkaijeppdhaaaGreatDoor
