/- Part of the proof. -/
import Derived.Test.YtdfkaijeppdhaaaGreatDoorZHt42
import Derived.Test.YtdfkaijeppdhaaaGreatDoorZHt43
set_option maxRecDepth 100000
set_option maxHeartbeats 8000000
set_option linter.unusedSimpArgs false
set_option linter.unusedVariables false

namespace Go.Proofs.YtdfkaijeppdhaaaGreatDoor
open Go.RowKit Go.Shelf
open Lib (hid)
section
variable{base:Nat}{w w':World}{m r:Nat}{P n R k:Nat->Nat}{B C:Nat->anl}{X:List Nat}
theorem agc(h:DuoL base w X m P n B r R k C){i:Nat}(hi:i<m)(line:ByteArray)(hs:line.size<=1000000):
  Calls Tryz.prog 36 #[.pointer (some ⟨P i,0,none⟩),.string line] w (a0s (ant (B i) line) w):=by
 obtain⟨F,h1⟩:=h.post hi;exact alq _ _ F _ line hs w h1 (h.ok hi) h.vars
theorem app(h:DuoL base w X m P n B r R k C){j:Nat}(hj:j<r)(line:ByteArray)(hs:line.size<=1000000):
  Calls Tryz.prog 43 #[.pointer (some ⟨R j,0,none⟩),.string line] w (a0s (ant (C j) line) w):=by
 obtain⟨vs,h1,_⟩:=h.ref hj;exact aka _ _ vs _ line hs w h1 (h.rok hj)
theorem apq(h:DuoL base w X m P n B r R k C){i:Nat}(hi:i<m)(s:ByteArray)(hs:s.size<=4000000000):
  Calls Tryz.prog 44 #[.pointer (some ⟨P i,0,none⟩),.string s] w (a98 base X m P n (upN B i (a3V (B i) s).2) r R k C (.int .i64 (a3V (B i) s).1) w):=by
 obtain⟨F,G,h0⟩:=h;have ho:=h0.ok i hi;refine(ait (P i) (n i) (F i) (B i) s hs w (h0.posts.post i hi) ho.1 h0.posts.vars).mono ?_
 rintro e w' ⟨rfl,F',k1,k2,k3⟩;exact⟨rfl,h0.turn hi (akf ho.1 s) k1 k2 k3⟩
theorem is_d(h:DuoL base w X m P n B r R k C){i j:Nat}(hi:i<m)(hj:j<r)(hn:n i=k j)(hb:BookEq (B i) (C j)):
  Calls Tryz.prog 45 #[.pointer (some ⟨P i,0,none⟩),.pointer (some ⟨R j,0,none⟩)] w (a38 true w):=by
 obtain⟨vs,hv,_⟩:=h.ref hj;have c0:∀W,KB w W->W.cell? ⟨R j,0,none⟩=some (.int .i64 (n i:Nat)):=fun W hW=>keep_cell hW (by rw[hn];exact heap_cell hv.1 rfl);have hA:=hb.all;have hCn:anF (C j)=anF (B i):=hb.cnt.symm;have HN1:=hid (fun W (hW:KB w W)=>(ajg (h.below hW) hi).mono (fun e w' hx=>show e= .returned (.int .i64 (n i:Nat))/\Below W.heap.size W w' from⟨hx.1,hx.2▸apC _ _⟩));have HC1:=hid (fun W (hW:KB w W)=>(akP (h.below hW) hi).mono (fun e w' hx=>show e= .returned (.int .i64 (anF (B i)))/\Below W.heap.size W w' from⟨hx.1,hx.2▸apC _ _⟩));have HC2:=hid (fun W (hW:KB w W)=>(ajf (h.below hW) hj).mono (fun e w' hx=>show e= .returned (.int .i64 (anF (B i)))/\Below W.heap.size W w' from⟨by rw[hx.1,hCn],hx.2▸apC _ _⟩));have HB1:=hid (fun W (hW:KB w W)=>ap3 (h.below hW) hi);have HB2:=hid (fun W (hW:KB w W)=>akO (h.below hW) hj);rw[<-hA]at HB2;have HS1:=hid (fun W (hW:KB w W)=>(ap4 (h.below hW) hi).mono (fun e w' hx=>show e= .returned (a8T (B i))/\Below W.heap.size W w' from hx));have HS2:=hid (fun W (hW:KB w W)=>(akQ (h.below hW) hj).mono (fun e w' hx=>show e= .returned (a8T (B i))/\Below W.heap.size W w' from⟨hx.1.trans (by rw[<-hb 0 (by omega),<-hb 1 (by omega),<-hb 2 (by omega),<-hb 3 (by omega)];rfl),hx.2⟩));have hsl:=aiv (h.ok hi);have HLN:Hid ((ann (B i)).length<=1000):=hid (by rw[a0X];exact alF (a1t (h.ok hi)) (by omega));generalize ann (B i)=l at *;generalize anF (B i)=ct at *;unfold a8T at hsl HS1 HS2;generalize (B i 0).length=l0 at *
 generalize (B i 1).length=l1 at *
 generalize (B i 2).length=l2 at *
 generalize (B i 3).length=l3 at *
 generalize n i=ni at *;generalize P i=Pi at *;generalize R j=Rj at *;clear h hv hn hb hA hCn;go_enter Tryz.func45,Tryz.ntmps45;go_wp2;refine wp_region_held_drew (S:=KB w) (by kernel_rfl) (KB.drew (KB.refl _)) (fun hHeld=>?_);refine tk [0,2,3,4,5] ?_;repeat (refine tkC hHeld (h:=?_);apply exq;(· intro W3 hS3;go_simp;try rfl);try simp only[gS])
 with_reducible refine tkE ?_
 refine rdy 1 (h:=fun K hK=>?_);go_simp;refine(HN1.out _ hHeld).mono ?_
 rintro e w1 ⟨rfl,hb⟩;have hk2:=KB.call hHeld hb;try dsimp only
 refine hK.out _ _ hk2 (fun hHeld=>?_);clear hK K hk2;try simp only[gS]
 clear hb;refine tk [6,7,8,10] ?_;repeat (refine tkC hHeld (h:=?_);apply exq;(· intro W3 hS3;go_simp;try rfl);try simp only[gS])
 with_reducible refine tkE ?_
 refine rdy 9 (h:=fun K hK=>?_);go_simp;refine(HC1.out _ hHeld).mono ?_
 rintro e w2 ⟨rfl,hb⟩;have hk2:=KB.call hHeld hb;try dsimp only
 refine hK.out _ _ hk2 (fun hHeld=>?_);clear hK K hk2;try simp only[gS]
 clear hb;refine rdy 11 (h:=fun K hK=>?_);go_simp;refine(HC2.out _ hHeld).mono ?_
 rintro e w3 ⟨rfl,hb⟩;have hk2:=KB.call hHeld hb;try dsimp only
 refine hK.out _ _ hk2 (fun hHeld=>?_);clear hK K hk2;try simp only[gS]
 clear hb;refine tk [12,13,14,15,17] ?_;repeat (refine tkC hHeld (h:=?_);apply exq;(· intro W3 hS3;go_simp;try rfl);try simp only[gS])
 with_reducible refine tkE ?_
 refine rdy 16 (h:=fun K hK=>?_);go_simp;refine(HB1.out _ hHeld).mono ?_
 rintro e w4 ⟨v1,rfl,hl1,_,hb⟩;have hk2:=KB.call hHeld hb;try dsimp only
 refine hK.out _ _ hk2 (fun hHeld=>?_);clear hK K hk2;try simp only[gS]
 have HL1:Hid (EntsAt w4 v1 l):=hid (hl1.ents (by have:=HLN.out;omega));clear hb hl1;refine rdy 18 (h:=fun K hK=>?_);go_simp;refine(HB2.out _ hHeld).mono ?_
 rintro e w5 ⟨v2,rfl,hl2,_,hb⟩;have hk2:=KB.call hHeld hb;try dsimp only
 refine hK.out _ _ hk2 (fun hHeld=>?_);clear hK K hk2;try simp only[gS]
 have HSM:=hid (ahj v1 v2 l l w5 (HL1.out.below hb) (hl2.ents (by have:=HLN.out;omega)) HLN.out);rw[decide_eq_true (rfl:l=l)]at HSM;clear hb hl2;refine rdy 19 (h:=fun K hK=>?_);go_simp;refine(HSM.out).mono ?_
 rintro e w6 ⟨rfl,hb⟩;have hk2:=KB.call hHeld hb;try dsimp only
 refine hK.out _ _ hk2 (fun hHeld=>?_);clear hK K hk2;try simp only[gS]
 clear hb;refine tk [20,21,22,24] ?_;repeat (refine tkC hHeld (h:=?_);apply exq;(· intro W3 hS3;go_simp;try rfl);try simp only[gS])
 with_reducible refine tkE ?_
 refine rdy 23 (h:=fun K hK=>?_);go_simp;refine(HS1.out _ hHeld).mono ?_
 rintro e w7 ⟨rfl,hb⟩;have hk2:=KB.call hHeld hb;try dsimp only
 refine hK.out _ _ hk2 (fun hHeld=>?_);clear hK K hk2;try simp only[gS]
 clear hb;refine rdy 25 (h:=fun K hK=>?_);go_simp;refine(HS2.out _ hHeld).mono ?_
 rintro e w8 ⟨rfl,hb⟩;have hk2:=KB.call hHeld hb;try dsimp only
 refine hK.out _ _ hk2 (fun hHeld=>?_);clear hK K hk2;try simp only[gS]
 clear hb;refine tk [26,27,28] ?_;repeat (refine tkC hHeld (h:=?_);apply exq;(· intro W3 hS3;go_simp;try rfl);try simp only[gS])
 with_reducible refine tkE ?_
 refine wpAnyH_done (by kernel_rfl) ?_ _;try simp only[Exit.then]
 go_wp2;go_ret;exact⟨rfl,hHeld⟩
end
def pv(a:Nat)(P:Nat->Nat)(j:Nat):Value:=if j<a then .pointer (some ⟨P j,0,none⟩)else .pointer none
theorem DuoL.setX{base:Nat}{w:World}{m r:Nat}{P n R k:Nat->Nat}{B C:Nat->anl}{X:List Nat}(h:DuoL base w X m P n B r R k C){g:Nat}(hg:g∈X)(j:Nat)(v:Value):DuoL base (w.setCell ⟨g,j,none⟩ v) X m P n B r R k C:=
 h.aside hg (by rw[apF];exact aly _) fun k _ hk=>apE _ _ _ k hk
theorem DuoL.drewn{base:Nat}{w:World}{m r:Nat}{P n R k:Nat->Nat}{B C:Nat->anl}{X:List Nat}(h:DuoL base w X m P n B r R k C):DuoL base w.drew X m P n B r R k C:=h.below (apC _ _).drew
def idN:Nat->Nat:=fun j=>j
def ao8:Nat->anl:=fun _=>anO
theorem aoT(i:Nat):upN idN i i=idN:=by funext j;unfold upN idN;split<;>simp_all
theorem aiw(i:Nat):upN ao8 i anO=ao8:=by funext j;unfold upN ao8;split<;>rfl
def KD(base:Nat)(w W:World):Prop:=Kid base w W
theorem KD.refl(base:Nat)(w:World):KD base w w:=Kid.refl _ _
theorem KD.drew{base:Nat}{w W:World}(h:KD base w W):KD base w W.drew:=Kid.trans h (Kid.of_below (apC _ _).drew)
theorem KD.call{base:Nat}{w W w2:World}(h:KD base w W)(k:Kid base W w2):KD base w w2:=Kid.trans h k
theorem KD.out{base:Nat}{w W:World}(h:KD base w W):Kid base w W:=h
theorem alw{base:Nat}{w W:World}(hk:KD base w W)(hs:base<=w.heap.size){a:Addr}{v:Value}(ha:a.block<base)(h:w.cell? a=some v):W.cell? a=some v:=((Kid.below hk hs).cell ha).trans h
open Go
abbrev StepS:=Int×Int×Int×ByteArray
end Go.Proofs.YtdfkaijeppdhaaaGreatDoor
