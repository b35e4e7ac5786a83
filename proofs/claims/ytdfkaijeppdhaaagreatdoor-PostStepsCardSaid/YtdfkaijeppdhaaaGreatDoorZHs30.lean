/- Part of the proof. -/
import Derived.Test.YtdfkaijeppdhaaaGreatDoorZHs28
import Derived.Test.YtdfkaijeppdhaaaGreatDoorZHs29

set_option maxRecDepth 100000
set_option maxHeartbeats 8000000

namespace Go.Proofs.YtdfkaijeppdhaaaGreatDoor.Fd
open Lib (hid)
open Proofs.Tryz Go.RowKit
def a6u(x:a04):List Value:=[.int .i64 x.1,.int .i64 x.2]
def a17(l:List a04):List Value:=l.flatMap a6u
theorem ahu(l:List a04)(x:a04):a17 (l++[x])=a17 l++[.int .i64 x.1,.int .i64 x.2]:=by simp[a17,a6u]
theorem a47:∀(l:List a04) (j:Nat),j<l.length->(a17 l)[j * 2]? =some (.int .i64 (l.getD j (0,0)).1)/\(a17 l)[j * 2+1]? =some (.int .i64 (l.getD j (0,0)).2)
 |d::l,0,_=>by simp[a17,a6u]
 | d::l,j+1,h=>by
  have ih:=a47 l j (by simpa using h)
  have e:∀i,(a17 (d::l))[(j+1) * 2+i]? =(a17 l)[j * 2+i]? :=fun i=>by
   rw[show (j+1) * 2+i=(j * 2+i)+2 by omega];simp[a17,a6u]
  have e0:=e 0;simp only[apM]at e0;rw[e0,e 1];simpa using ih
def OwnR(w:World)(B:Nat)(v:Value)(l:List a04):Prop:=w.ownsRow B 199 2 v l.length (a17 l)
theorem OwnR.at{W:World}{base:Nat}{v:Value}{l:List a04}(h:OwnR W base v l)(hl:l.length<=9223372036854775807):RatsAt W v l:=by
 rcases h.2 with⟨rfl,h0⟩|⟨g,cap,cur,rfl,hg,hh,h1,h2,h3,h4⟩
 ·exact⟨none,0,by rw[h0],⟨hl,om⟩,fun h=>om⟩
 refine⟨some ⟨g,0,none⟩,cap,rfl,⟨hl,h1⟩,fun h0=>⟨g,0,rfl,fun j hj=>?_⟩⟩;obtain⟨e1,e2⟩:=a47 l j hj;simp only[ap5];exact⟨(World.ownsRow.cellAt h _ om).trans e1,(World.ownsRow.cellAt h _ om).trans e2⟩
theorem own_below{w w':World}{B:Nat}{e:TypeId}{size n:Nat}{v:Value}{xs:List Value}(h:w.ownsRow B e size v n xs)(hb:Below w.heap.size w w'):w'.ownsRow B e size v n xs:=by
 refine⟨h.1,?_⟩;rcases h.2 with hn|⟨g,cap,cur,rfl,hg,hh,r⟩
 ·exact .inl hn
 exact .inr ⟨g,cap,cur,rfl,hg,(hb.block g (aog.1 hh).1).trans hh,r⟩
theorem OwnR.below{w w':World}{B:Nat}{v:Value}{l:List a04}(h:OwnR w B v l)(hb:Below w.heap.size w w'):OwnR w' B v l:=own_below h hb
theorem OwnR.base{w:World}{B B':Nat}{v:Value}{l:List a04}(h:OwnR w B v l)(hB:B'<=B):OwnR w B' v l:=by
 refine⟨h.1,?_⟩;rcases h.2 with hn|⟨g,cap,cur,rfl,hg,r⟩
 ·exact .inl hn
 exact .inr ⟨g,cap,cur,rfl,aor hB hg,r⟩
theorem OwnR.nil(w:World)(B:Nat):OwnR w B (.slice none 0 0) []:=World.ownsRow_nil _ _ _ _
theorem OwnR.snoc{w:World}{B:Nat}{v:Value}{l:List a04}{x:a04}{n:Nat}(hn:n=l.length)(h:w.ownsRow B 199 2 v (n+1) (a17 l++[.int .i64 x.1,.int .i64 x.2])):OwnR w B v (l++[x]):=by
 unfold OwnR;rw[ahu,aol,<-hn];exact h
theorem Tryz.infoRatio:(prog.info? 199).map (fun i=>(i.zero,i.size,i.bytes))=some (some (.agg #[.int .i64 0,.int .i64 0]),2,16):=ot
theorem a5e{n:Nat}(w:World)(x y:Value)(t:TypeId)(hn:w.heap.size=n):∀j u,[x,y][j]? =some u->(w.alloc (.cells #[x,y] t)).cell? ((⟨n,0,none⟩:Addr).add j)=some u:=by
 subst hn;intro j u hj;match j,hj with
 |0,hj=>simp at hj;subst hj;simp[Addr.add]
 |1,hj=>simp at hj;subst hj;simp[Addr.add]
theorem a4j{w wr:World}{t:TypeId}{x y:Value}(hb:Below (w.heap.size+1) (w.alloc (.cells #[x,y] t)) wr):
  (wr.cell? ⟨w.heap.size,0,none⟩=some x/\wr.cell? ⟨w.heap.size,1,none⟩=some y)/\wr.frozen? ⟨w.heap.size,0,none⟩=false/\wr.frozen? ⟨w.heap.size,1,none⟩=false:=
 ⟨⟨(hb.cell (p:=⟨w.heap.size,0,none⟩) (aoQ _)).trans oz,(hb.cell (p:=⟨w.heap.size,1,none⟩) (aoQ _)).trans oz⟩,
  (hb.frozen (p:=⟨w.heap.size,0,none⟩) (aoQ _)).trans oz,(hb.frozen (p:=⟨w.heap.size,1,none⟩) (aoQ _)).trans oz⟩
theorem a6b{w wr:World}{t:TypeId}{x y:Value}(hb:Below (w.heap.size+1) (w.alloc (.cells #[x,y] t)) wr)(a b:Value):
  Below w.heap.size w ((wr.setCell ⟨w.heap.size,0,none⟩ a).setCell ⟨w.heap.size,1,none⟩ b):=
 ((((aoi _ w).alloc (aof _) _).trans (hb.mono (aoS _))).setCell (aof _) _).setCell (aof _) _
theorem a6c(w:World)(a b c d:Value)(t:TypeId):Below w.heap.size w ((w.alloc (.cells #[a,b] t)).alloc (.cells #[c,d] t)):=((aoi _ w).alloc (aof _) _).alloc oz _
theorem a9g(a b c d:Int)(w:World)(h1: -1000000000000000000<=a * d/\a * d<=1000000000000000000)(h2: -1000000000000000000<=c * b/\c * b<=1000000000000000000):
  Calls prog 293 #[.agg #[.int .i64 a,.int .i64 b],.agg #[.int .i64 c,.int .i64 d]] w fun e w'=>e= .returned (.int .i64 (Lib.compareInt (a * d) (c * b)))/\Below w.heap.size w w':=by
 have hal:=a6c w (.int .i64 a) (.int .i64 b) (.int .i64 c) (.int .i64 d) 199;go_enter func293,ntmps293;go_wp2_with fail
 refine(Tryz.cmp_Compare_int _ _ _).mono ?_
 rintro e w' ⟨rfl,rfl⟩;go_wp2;go_ret;exact⟨rfl,hal⟩
theorem ahv(a b c d:Int)(w:World)(h1: -1000000000000000000<=a * d/\a * d<=1000000000000000000)(h2: -1000000000000000000<=c * b/\c * b<=1000000000000000000):
  Calls prog 133 #[.agg #[.int .i64 a,.int .i64 b],.agg #[.int .i64 c,.int .i64 d]] w fun e w'=>e= .returned (.bool (decide (a * d<c * b)))/\Below w.heap.size w w':=by
 have hal:=a6c w (.int .i64 a) (.int .i64 b) (.int .i64 c) (.int .i64 d) 199;go_enter func133,ntmps133;go_wp2;go_ret;exact⟨rfl,hal⟩
theorem alz(a b c d:Int)(w:World)(h1: -1000000000000000000<=a * d/\a * d<=1000000000000000000)(h2: -1000000000000000000<=c * b/\c * b<=1000000000000000000)(h3:1<=b * d/\b * d<=1000000000000000000):
  Calls prog 321 #[.agg #[.int .i64 a,.int .i64 b],.agg #[.int .i64 c,.int .i64 d]] w fun e w'=>e= .returned (a1c (a * d+c * b) (b * d))/\Below w.heap.size w w':=by
 have hal:=a6c w (.int .i64 a) (.int .i64 b) (.int .i64 c) (.int .i64 d) 199;go_enter func321,ntmps321;go_wp2_with fail
 refine(a5c _ _ _ om om om om).mono ?_
 rintro e w1 ⟨rfl,hb1⟩;generalize hW:(w.alloc (.cells #[.int .i64 a,.int .i64 b] 199)).alloc (.cells #[.int .i64 c,.int .i64 d] 199)=W at *
 have hs:W.heap.size=w.heap.size+2:=by rw[<-hW];simp
 have hbr:Below (W.heap.size+1) (W.alloc (.cells #[.int .i64 0,.int .i64 0] 199)) w1:=by rwa[aoq]at hb1
 have e2:w.heap.size+1+1=W.heap.size:=om;obtain⟨⟨c0,c1⟩,f0,f1⟩:=a4j hbr;have hB:=hid (below_trans hal (a6b hbr (.int .i64 (rn (a * d+c * b) (b * d))) (.int .i64 (rd (a * d+c * b) (b * d)))));rw[<-e2]at c0 c1 f0 f1 hB;clear hW hs hb1 hbr hal e2;unfold a1c;go_wp2;exact bodyPost_ret (v:=a1c (a * d+c * b) (b * d)) (by unfold a1c;simp[results,results321,go_sem,c0,c1]) rfl ⟨rfl,hB.out⟩
theorem ajS(a b c d:Int)(w:World)(h1: -1000000000000000000<=a * d/\a * d<=1000000000000000000)(h2: -1000000000000000000<=c * b/\c * b<=1000000000000000000)(h3:1<=b * d/\b * d<=1000000000000000000)(h4: -1000000000000000000<=c/\c<=1000000000000000000):
  Calls prog 316 #[.agg #[.int .i64 a,.int .i64 b],.agg #[.int .i64 c,.int .i64 d]] w fun e w'=>e= .returned (a1c (a * d-c * b) (b * d))/\Below w.heap.size w w':=by
 have hal:=a6c w (.int .i64 a) (.int .i64 b) (.int .i64 c) (.int .i64 d) 199;have hn: -c * b= -(c * b):=Int.neg_mul c b;have P:=hid (fun W=>alz a b (-c) d W h1 (by rw[hn];omega) h3);have E:Hid (a1c (a * d+ -c * b) (b * d)=a1c (a * d-c * b) (b * d)):=hid (by rw[hn];rfl);clear hn;go_enter func316,ntmps316;go_wp2_with fail
 refine(P.out _).mono ?_
 rintro e w1 ⟨rfl,hb1⟩;rw[E.out];clear P E;generalize hW:(w.alloc (.cells #[.int .i64 a,.int .i64 b] 199)).alloc (.cells #[.int .i64 c,.int .i64 d] 199)=W at *
 have hs:W.heap.size=w.heap.size+2:=by rw[<-hW];simp
 have hbr:Below (W.heap.size+1) (W.alloc (.cells #[.int .i64 0,.int .i64 0] 199)) w1:=by rwa[aoq]at hb1
 have e2:w.heap.size+1+1=W.heap.size:=om;obtain⟨⟨c0,c1⟩,f0,f1⟩:=a4j hbr;have hB:=hid (below_trans hal (a6b hbr (.int .i64 (rn (a * d-c * b) (b * d))) (.int .i64 (rd (a * d-c * b) (b * d)))));rw[<-e2]at c0 c1 f0 f1 hB;clear hW hs hb1 hbr hal e2;unfold a1c;go_wp2;exact bodyPost_ret (v:=a1c (a * d-c * b) (b * d)) (by unfold a1c;simp[results,results316,go_sem,c0,c1]) rfl ⟨rfl,hB.out⟩
theorem afx{l:List Int}{k:Nat}(e1:Int)(hlt:k<l.length):a0u (l.drop k) e1=if e1<=l.getD k 0 * ((l.length:Int)-k)then (e1,(l.length:Int)-k)else a0u (l.drop (k+1)) (e1-l.getD k 0):=by
 have e:(((l.drop (k+1)).length:Nat):Int)+1=(l.length:Int)-k:=by simp;omega
 rw[aoL hlt,a0u,e,aoh,aoj hlt];rfl
theorem alA(n d:Int):a1c n d= .agg #[.int .i64 (red n d).1,.int .i64 (red n d).2]:=rfl
theorem ajT(v:Value)(c:List Int)(e0:Int)(w:World)(hv:IntsAt w v c)(hc:Cvl c)(he:0<=e0)(hes:e0<=tot c/\e0<=8000):
  Calls prog 309 #[v,.int .i64 e0] w fun e w'=>e= .returned (a1c (a0u (srt c) e0).1 (a0u (srt c) e0).2)/\Below w.heap.size w w':=by
 have hlen:(srt c).length=c.length:=a5s c
 have hhi:=hc.hi;have hlo:=hc.lo;have l8:(srt c).length<=8:=om
 have l1:0<(srt c).length:=om
 have hmem:Hid (∀j,j<(srt c).length->0<=(srt c).getD j 0/\(srt c).getD j 0<=1000):=hid (fun j hj=>hc.holds _ ((a5d c).mem_iff.1 (a1v hj)));have hal:Below w.heap.size w (w.alloc (.cells #[.int .i64 0,.int .i64 0] 199)):=(aoi _ w).alloc (aof _) _
 have HV:=hid (hv.below hal);clear hlen hv hc;go_enter func309,ntmps309;go_wp2_with fail
 refine(ahs _ _ _ HV.out).mono ?_
 rintro e w1 ⟨rfl,rfl⟩;go_wp2_with fail
 refine(aht _ v c om _ oz (HV.out.below ((aoi _ _).alloc (aof _) _))).mono ?_
 rintro e w1 ⟨v1,rfl,hrow,hb1⟩;have hbr:Below (w.heap.size+1) (w.alloc (.cells #[.int .i64 0,.int .i64 0] 199)) w1:=((aoi _ _).alloc oz _).trans (hb1.mono oz)
 obtain⟨b,off,cap,rfl,hcell⟩:=ints_cell (own_ints hrow om) l1;have HC:=hid hcell;clear hrow hb1 hcell;go_wp2;go_loop [1,14] (fun en i=>∃(k:Nat) (e1:Int),k<=(srt c).length/\i= .int .i64 k/\en= .int .i64 e1/\0<=e1/\e1<=8000/\Hid (a0u ((srt c).drop k) e1=a0u (srt c) e0)) (fun _ i=>(srt c).length-(intOf i).toNat)
 case atStart=>exact⟨0,e0,aot _,rfl,rfl,he,hes.2,hid rfl⟩
 case round=>
  obtain⟨k,e1,hk,rfl,rfl,g0,g1,H⟩:=hrel;by_cases hlt:k<(srt c).length
  ·have hx:=hmem.out k hlt;have hcell:=HC.out k hlt;have U:=hid (afx e1 hlt);generalize (srt c).getD k 0=x at *
   have m1:0<=x * (((srt c).length:Int)-k)/\x * (((srt c).length:Int)-k)<=1000 * 8:=⟨apk om om,apR om om om om⟩
   have m2:x * 1<=x * (((srt c).length:Int)-k):=aph om om;by_cases hge:e1<=x * (((srt c).length:Int)-k)
   ·have R:Hid (a0u (srt c) e0=(e1,((srt c).length:Int)-k)):=hid (by rw[<-H.out,U.out,if_pos hge]);go_wp2_with fail
    refine(a5c _ _ _ om om om om).mono ?_
    rintro e w2 ⟨rfl,hb2⟩;have hbr2:=hbr.trans (hb2.mono (by have:=hbr.size;rwa[aoq]at this));obtain⟨⟨c0,c1⟩,f0,f1⟩:=a4j hbr2;have hB:=hid (a6b hbr2 (.int .i64 (rn e1 (((srt c).length:Int)-k))) (.int .i64 (rd e1 (((srt c).length:Int)-k))));unfold a1c;go_wp2;exact bodyPost_ret (v:=a1c e1 (((srt c).length:Int)-k)) (by unfold a1c;simp[results,results309,go_sem,c0,c1]) rfl ⟨by rw[R.out],hB.out⟩
   have R:Hid (a0u ((srt c).drop (k+1)) (e1-x)=a0u (srt c) e0):=hid (by rw[<-H.out,U.out,if_neg hge]);go_wp2;go_round
   case rel=>exact⟨k+1,e1-x,om,by go_num,rfl,om,om,R⟩
   case measure=>simp[intOf];omega
  have e:k=(srt c).length:=om
  subst e;have R:Hid (a0u (srt c) e0=(0,1)):=hid (by rw[<-H.out,List.drop_length];rfl);go_wp2_with fail
  refine(a5c _ _ _ om om om om).mono ?_
  rintro e w2 ⟨rfl,hb2⟩;have hbr2:=hbr.trans (hb2.mono (by have:=hbr.size;rwa[aoq]at this));obtain⟨⟨c0,c1⟩,f0,f1⟩:=a4j hbr2;have hB:=hid (a6b hbr2 (.int .i64 (rn 0 1)) (.int .i64 (rd 0 1)));unfold a1c;go_wp2;exact bodyPost_ret (v:=a1c 0 1) (by unfold a1c;simp[results,results309,go_sem,c0,c1]) rfl ⟨by rw[R.out],hB.out⟩
end Go.Proofs.YtdfkaijeppdhaaaGreatDoor.Fd
namespace Go.Proofs.YtdfkaijeppdhaaaGreatDoor.Fd
open Lib (hid)
open Proofs.Tryz Go.RowKit
theorem OwnR.row{w:World}{B:Nat}{v:Value}{l:List a04}(h:OwnR w B v l):w.ownsRow B 199 2 v l.length (a17 l):=h
def GivesR(l:List a04)(w:World)(e:Ending)(w':World):Prop:=∃v,e= .returned v/\OwnR w' w.heap.size v l/\Below w.heap.size w w'
theorem a5h{f:Int->a04}{c:List Int}{k:Nat}(hk:k<c.length):(c.map f).take (k+1)=(c.map f).take k++[f (c.getD k 0)]:=by
 rw[aon (by simpa using hk),aoh,aoj hk];simp
theorem abP(v:Value)(c:List Int)(e0:Int)(w:World)(hv:IntsAt w v c)(hc:Cvl c)(he:0<=e0)(hes:e0<=8000):
  Calls prog 300 #[v,.int .i64 e0] w (GivesR (a1Q c e0) w):=by
 have HV:=hid hv;have HH:=hid hc;have hhi:=hc.hi;have hlo:=hc.lo;have ht:=a6F hc c.length (aof _);rw[aoK]at ht;obtain⟨i0,hi0,hz0,hz1,hz2⟩:=info_parts Tryz.infoRatio;obtain⟨b,off,cap,rfl,hcc⟩:=ints_cell hv om;have HC:=hid hcc;clear hv hc hcc;go_enter func300,ntmps300;go_wp2_with fail
 refine(a5y _ _ _ HV.out HH.out).mono ?_
 rintro e w' ⟨rfl,rfl⟩;have P:Hid (a1Q c e0=c.map fun x=>red (x * e0) (max 1 (tot c))):=hid rfl;generalize tot c=tt at *;have ha:1<=max 1 tt/\max 1 tt<=8000:=om;go_wp2;generalize max 1 tt=A at *;have hL:(a1Q c e0).length=c.length:=by rw[P.out,aoB]
 have HL:=hid hL;clear hL;go_loopw [6,14] (fun o i wr=>∃k:Nat,k<=c.length/\i= .int .i64 k/\OwnR wr w.heap.size o ((a1Q c e0).take k)/\Below w.heap.size w wr) (fun _ i _=>c.length-(intOf i).toNat)
 case atStart=>exact⟨0,aot _,rfl,OwnR.nil _ _,aoi _ _⟩
 case round=>
  obtain⟨k,hk,rfl,hown,hbel⟩:=hrel;have hTk:((a1Q c e0).take k).length<=8:=by have:=HL.out;simp;omega
  by_cases hlt:k<c.length
  ·have hcell:=keep_cell hbel (HC.out k hlt);have hx:=HH.out.holds _ (a1v hlt);have T:Hid ((a1Q c e0).take (k+1)=(a1Q c e0).take k++[(rn (c.getD k 0 * e0) A,rd (c.getD k 0 * e0) A)]):=hid (by rw[P.out];exact a5h hlt);generalize c.getD k 0=x at *;have m1:0<=x * e0/\x * e0<=1000 * 8000:=⟨apk om om,apR om om om om⟩
   go_wp2_with fail
   refine(a5c _ _ _ om om om om).mono ?_
   rintro e w2 ⟨rfl,hb2⟩;have hownW:=hown.below hb2;have hbW:=below_trans hbel hb2;clear hown hbel hb2 hcell;unfold a1c;go_wp2_with (at_builtin;refine wpList_append_own _ rfl _ _ 195 rfl w.heap.size 199 i0 (.agg #[.int .i64 0,.int .i64 0]) 2 16 underlying195 hi0 hz0 hz1 hz2 rfl ox _ _ _ rfl (hownW.row.alloc _) ⟨w2.heap.size,0,none⟩ 1 1 [.int .i64 (rn (x * e0) A),.int .i64 (rd (x * e0) A)] rfl rfl (a5e _ _ _ _ rfl) ?c2 ?c3 ?c4 ?c5 ?_)
   case c2=>intro u hu;simp at hu;rcases hu with rfl|rfl<;>rfl
   case c3=>unfold maxLen;omega
   case c4=>omega
   case c5=>have:=hbW.size;simp;omega
   intro v' w3 hown' hgrow _;have O3:Hid (OwnR w3 (w.heap.size) v' ((a1Q c e0).take (k+1))):=hid (by rw[T.out];exact OwnR.snoc (by first|rfl|simp) hown');have B3:=hid (below_append hbW hbW.size hownW.row hgrow);clear hown' hgrow;clear hownW hbW;go_wp2;go_roundw
   case rel=>exact⟨k+1,om,by go_num,O3.out,B3.out⟩
   case measure=>simp[intOf];omega
  have e:k=c.length:=om;subst e;have O:Hid (OwnR wr w.heap.size u6 (a1Q c e0)):=hid (by rwa[aou (by rw[HL.out];exact aof _)]at hown);have B:=hid hbel;clear hown hbel;go_wp2;go_ret;exact⟨_,rfl,O.out,B.out⟩
theorem ajU{a b:Int}(h:a<b):Lib.compareInt a b= -1:=by unfold Lib.compareInt;rw[if_pos h]
theorem ajV{a b:Int}(h:¬a<b):0<=Lib.compareInt a b:=by unfold Lib.compareInt;rw[if_neg h];split<;>omega
theorem alB{c:List Int}{e:Int}{k:Nat}(hk:k<c.length):
  (eqW c e).take (k+1)=(eqW c e).take k++[red (cap (a0u (srt c) e).1 (a0u (srt c) e).2 (c.getD k 0)) (a0u (srt c) e).2]:=a5h hk
theorem equal_any(v:Value)(c:List Int)(e0:Int)(w:World)(hv:IntsAt w v c)(hc:Cvl c)(he:0<=e0)(hes:e0<=tot c):
  Calls prog 301 #[v,.int .i64 e0] w (GivesR (eqW c e0) w):=by
 have HV:=hid hv;have HH:=hid hc;have hhi:=hc.hi;have hlo:=hc.lo;have ht:=a6F hc c.length (aof _);rw[aoK]at ht;obtain⟨i0,hi0,hz0,hz1,hz2⟩:=info_parts Tryz.infoRatio;have L1:=hid (ajT v c e0 w hv hc he ⟨hes,om⟩);obtain⟨b,off,cap0,rfl,hcc⟩:=ints_cell hv om;have HC:=hid hcc;have hbl:b<w.heap.size:=World.block_lt_of_cell? _ _ (hcc 0 om);clear hv hc hcc;have hLv:(eqW c e0).length=c.length:=by unfold eqW a5N;rw[aoB]
 have HL:=hid hLv;have q1:=a9L (srt c) e0;obtain⟨p1,p2,q2⟩:=a8B (srt c) e0 (fun x hx=>(HH.out.holds x ((a5d c).mem_iff.1 hx)).1) he;have hsl:=a5s c;have S:=hid (fun k hk=>alB (c:=c) (e:=e0) (k:=k) hk);clear hLv;generalize hpp:(a0u (srt c) e0).1=p at *
 generalize hqq:(a0u (srt c) e0).2=q at *
 have rb:=ab7 (n:=p) (d:=q) (B:=8000) q1 om om;have rp:=a8W (n:=p) (d:=q) q1 om;have q9:q<=9:=om;clear hpp hqq hsl q2;have L2:Hid (Calls prog 309 #[.slice (some ⟨b,off,none⟩) c.length cap0,.int .i64 e0] w fun e w'=>e= .returned (.agg #[.int .i64 (red p q).1,.int .i64 (red p q).2])/\Below w.heap.size w w'):=L1;have O1:=hid (fun x (h:x * (red p q).2<(red p q).1)=>an6 q1 h);have O2:=hid (fun x (h:¬x * (red p q).2<(red p q).1)=>an7 q1 h);clear L1;have R0:Hid (red p q=((red p q).1,(red p q).2)):=hid rfl;generalize (red p q).1=N at *
 generalize (red p q).2=D at *
 go_enter func301,ntmps301;go_wp2_with fail
 refine L2.out.mono ?_;rintro e w1 ⟨rfl,hb1⟩;have hsz:=hb1.size;clear L2;go_wp2;go_loopw [6,14] (fun o i wr=>∃k:Nat,k<=c.length/\i= .int .i64 k/\OwnR wr (w1.heap.size+1) o ((eqW c e0).take k)/\Below (w1.heap.size+1) (w1.alloc (.cells #[.int .i64 N,.int .i64 D] 199)) wr) (fun _ i _=>c.length-(intOf i).toNat)
 case atStart=>exact⟨0,aot _,rfl,OwnR.nil _ _,aoi _ _⟩
 case round=>
  obtain⟨k,hk,rfl,hown,hbel⟩:=hrel;have hTk:((eqW c e0).take k).length<=8:=by have:=HL.out;simp;omega
  have hbel2:Below w.heap.size w wr:=hb1.trans (((aoi _ _).alloc hsz _).trans (hbel.mono om));by_cases hlt:k<c.length
  ·have hcell:=keep_cell hbel2 (HC.out k hlt);have hx:=HH.out.holds _ (a1v hlt);have T0:=hid (S.out k hlt);obtain⟨⟨c0,c1⟩,f0,f1⟩:=a4j hbel;generalize c.getD k 0=x at *;have m1:0<=x * D/\x * D<=1000 * 9:=⟨apk om om,apR om om om om⟩
   have hwl:w1.heap.size<wr.heap.size:=by have:=hbel.size;rw[aoq]at this;omega
   go_wp2_with fail
   refine(a9g x 1 N D _ om om).mono ?_
   rintro e w2 ⟨rfl,hb2⟩;have hownW:=hown.below hb2;have hbW:Below (w1.heap.size+1) (w1.alloc (.cells #[.int .i64 N,.int .i64 D] 199)) w2:=hbel.trans (hb2.mono (by have:=hbel.size;rwa[aoq]at this));clear hown hbel hb2 hcell hbel2 c0 c1 f0 f1;obtain⟨⟨c0,c1⟩,f0,f1⟩:=a4j hbW;have hwl2:w1.heap.size<w2.heap.size:=by have:=hbW.size;rw[aoq]at this;omega
   have hbs:w1.heap.size+1<=w2.heap.size:=hwl2;by_cases hlt2:x * D<N
   ·have hcm:=hid (ajU (show x * D<N * 1 by omega));have T:Hid ((eqW c e0).take (k+1)=(eqW c e0).take k++[(x,1)]):=hid (by rw[T0.out,O1.out x om]);rw[hcm.out];go_wp2_with (at_builtin;refine wpList_append_own _ rfl _ _ 195 rfl (w1.heap.size+1) 199 i0 (.agg #[.int .i64 0,.int .i64 0]) 2 16 underlying195 hi0 hz0 hz1 hz2 rfl ox _ _ _ rfl (hownW.row.alloc _) ⟨w2.heap.size,0,none⟩ 1 1 [.int .i64 x,.int .i64 1] rfl rfl (a5e _ _ _ _ rfl) ?c2 ?c3 ?c4 ?c5 ?_)
    case c2=>intro u hu;simp at hu;rcases hu with rfl|rfl<;>rfl
    case c3=>unfold maxLen;omega
    case c4=>omega
    case c5=>simp;omega
    intro v' w3 hown' hgrow _;have O3:Hid (OwnR w3 (w1.heap.size+1) v' ((eqW c e0).take (k+1))):=hid (by rw[T.out];exact OwnR.snoc (by first|rfl|simp) hown');have B3:=hid (below_append hbW hbs hownW.row hgrow);clear hown' hgrow hownW hbW c0 c1 f0 f1;go_wp2;go_roundw
    case rel=>exact⟨k+1,om,by go_num,O3.out,B3.out⟩
    case measure=>simp[intOf];omega
   have hcm:=ajV (show¬x * D<N * 1 by omega);have T:Hid ((eqW c e0).take (k+1)=(eqW c e0).take k++[(N,D)]):=hid (by rw[T0.out,O2.out x om,R0.out]);generalize Lib.compareInt (x * D) (N * 1)=cv at *;go_wp2_with (at_builtin;refine wpList_append_own _ rfl _ _ 195 rfl (w1.heap.size+1) 199 i0 (.agg #[.int .i64 0,.int .i64 0]) 2 16 underlying195 hi0 hz0 hz1 hz2 rfl ox _ _ _ rfl (hownW.row.alloc _) ⟨w2.heap.size,0,none⟩ 1 1 [.int .i64 N,.int .i64 D] rfl rfl (a5e _ _ _ _ rfl) ?c2 ?c3 ?c4 ?c5 ?_)
   case c2=>intro u hu;simp at hu;rcases hu with rfl|rfl<;>rfl
   case c3=>unfold maxLen;omega
   case c4=>omega
   case c5=>simp;omega
   intro v' w3 hown' hgrow _;have O3:Hid (OwnR w3 (w1.heap.size+1) v' ((eqW c e0).take (k+1))):=hid (by rw[T.out];exact OwnR.snoc (by first|rfl|simp) hown');have B3:=hid (below_append hbW hbs hownW.row hgrow);clear hown' hgrow hownW hbW c0 c1 f0 f1;go_wp2;go_roundw
   case rel=>exact⟨k+1,om,by go_num,O3.out,B3.out⟩
   case measure=>simp[intOf];omega
  have e:k=c.length:=om;subst e;have O:Hid (OwnR wr w.heap.size u6 (eqW c e0)):=hid (by rw[aou (by rw[HL.out];exact aof _)]at hown;exact hown.base om);have B:=hid hbel2;clear hown hbel hbel2;go_wp2;go_ret;exact⟨_,rfl,O.out,B.out⟩
end Go.Proofs.YtdfkaijeppdhaaaGreatDoor.Fd
namespace Go.Proofs.YtdfkaijeppdhaaaGreatDoor.Fd
open Lib (hid)
open Proofs.Tryz Go.RowKit
def Mod(l:List a04):Prop:=∀x∈l, -1000000000<=x.1/\x.1<=1000000000/\1<=x.2/\x.2<=1000000
theorem acy{l:List a04}{k:Nat}(hk:k<l.length):(a0E l).take (k+1)=(a0E l).take k++[red (l.getD k (0,0)).1 (2 * (l.getD k (0,0)).2)]:=by
 unfold a0E;rw[aon (by simpa using hk),aoh,aoj hk];simp
theorem acz{c:List Int}{l:List a04}{k:Nat}(hk:k<c.length)(hl:k<l.length):
  (a1r c l).take (k+1)=(a1r c l).take k++[red (c.getD k 0 * (l.getD k (0,0)).2-(l.getD k (0,0)).1) (l.getD k (0,0)).2]:=by
 unfold a1r;rw[aon km,aoh,aoj hk,aoh,aoj hl];simp
theorem a8C(c:List Int)(l:List a04)(h:l.length=c.length):(a1r c l).length=c.length:=by
 unfold a1r;simp;omega
theorem aej(v:Value)(l:List a04)(w:World)(hv:RatsAt w v l)(hl:l.length<=8)(hm:Mod l):
  Calls prog 311 #[v] w (GivesR (a0E l) w):=by
 obtain⟨i0,hi0,hz0,hz1,hz2⟩:=info_parts Tryz.infoRatio;obtain⟨a,cap,rfl,hlc,hq⟩:=hv;have HQ:=hid hq;have HM:=hid hm;have HL:Hid ((a0E l).length=l.length):=hid (by unfold a0E;rw[aoB]);clear hq hm;go_enter func311,ntmps311;go_wp2;go_loopw [3,8] (fun o i wr=>∃k:Nat,k<=l.length/\i= .int .i64 k/\OwnR wr w.heap.size o ((a0E l).take k)/\Below w.heap.size w wr) (fun _ i _=>l.length-(intOf i).toNat)
 case atStart=>exact⟨0,aot _,rfl,OwnR.nil _ _,aoi _ _⟩
 case round=>
  obtain⟨k,hk,rfl,hown,hbel⟩:=hrel;have hTk:((a0E l).take k).length<=8:=by have:=HL.out;simp;omega
  by_cases hlt:k<l.length
  ·obtain⟨b,off,rfl,hc⟩:=HQ.out om;obtain⟨x0,d0⟩:=hc k hlt;have x1:=keep_cell hbel x0;have d1:=keep_cell hbel d0;have hx:=HM.out _ (a2D hlt);have T:=hid (acy hlt);clear hc x0 d0;generalize l.getD k (0,0)=xd at *;obtain⟨n,d⟩:=xd;simp only at x1 d1 hx T;have hsz:=hbel.size;go_wp2_with fail
   refine(a5c _ _ _ om om om om).mono ?_
   rintro e w2 ⟨rfl,hb2⟩;have hal:Below wr.heap.size wr (wr.alloc (.cells #[.int .i64 n,.int .i64 d] 199)):=(aoi _ _).alloc (aof _) _
   have hownW:=(hown.below hal).below hb2
   have hbW:=below_trans hbel (below_trans hal hb2);clear hown hbel hb2 x1 d1 hal;unfold a1c;go_wp2_with (at_builtin;refine wpList_append_own _ rfl _ _ 195 rfl w.heap.size 199 i0 (.agg #[.int .i64 0,.int .i64 0]) 2 16 underlying195 hi0 hz0 hz1 hz2 rfl ox _ _ _ rfl (hownW.row.alloc _) ⟨w2.heap.size,0,none⟩ 1 1 [.int .i64 (rn n (2 * d)),.int .i64 (rd n (2 * d))] rfl rfl (a5e _ _ _ _ rfl) ?c2 ?c3 ?c4 ?c5 ?_)
   case c2=>intro u hu;simp at hu;rcases hu with rfl|rfl<;>rfl
   case c3=>unfold maxLen;omega
   case c4=>omega
   case c5=>have:=hbW.size;simp;omega
   intro v' w3 hown' hgrow _;have O3:Hid (OwnR w3 (w.heap.size) v' ((a0E l).take (k+1))):=hid (by rw[T.out];exact OwnR.snoc (by first|rfl|simp) hown');have B3:=hid (below_append hbW hbW.size hownW.row hgrow);clear hown' hgrow;clear hownW hbW;go_wp2;go_roundw
   case rel=>exact⟨k+1,om,by go_num,O3.out,B3.out⟩
   case measure=>simp[intOf];omega
  have e:k=l.length:=om;subst e;have O:Hid (OwnR wr w.heap.size u3 (a0E l)):=hid (by rwa[aou (by rw[HL.out];exact aof _)]at hown);have B:=hid hbel;clear hown hbel;go_wp2;go_ret;exact⟨_,rfl,O.out,B.out⟩
theorem aek(v x:Value)(c:List Int)(l:List a04)(w:World)(hv:IntsAt w v c)(hx:RatsAt w x l)(hc:Cvl c)(hl:l.length=c.length)(hm:Mod l):
  Calls prog 310 #[v,x] w (GivesR (a1r c l) w):=by
 obtain⟨i0,hi0,hz0,hz1,hz2⟩:=info_parts Tryz.infoRatio;have hhi:=hc.hi;have hlo:=hc.lo;have lc:c.length<=l.length:=om;obtain⟨b,off,cap,rfl,hcc⟩:=ints_cell hv om;obtain⟨b2,off2,cap2,hcap,rfl,hcl⟩:=acu hx om;have HC:=hid hcc;have HR:=hid hcl;have HM:=hid hm;have HH:=hid hc;have HL:=hid (a8C c l hl);clear hm hv hx hc hl hcc hcl;go_enter func310,ntmps310;go_wp2;go_loopw [5,10] (fun o i wr=>∃k:Nat,k<=c.length/\i= .int .i64 k/\OwnR wr w.heap.size o ((a1r c l).take k)/\Below w.heap.size w wr) (fun _ i _=>c.length-(intOf i).toNat)
 case atStart=>exact⟨0,aot _,rfl,OwnR.nil _ _,aoi _ _⟩
 case round=>
  obtain⟨k,hk,rfl,hown,hbel⟩:=hrel;have hTk:((a1r c l).take k).length<=8:=by have:=HL.out;simp;omega
  by_cases hlt:k<c.length
  ·have hkl:k<l.length:=om;obtain⟨x0,d0⟩:=HR.out k hkl;have x1:=keep_cell hbel x0;have d1:=keep_cell hbel d0;have c1:=keep_cell hbel (HC.out k hlt);have hx:=HM.out _ (a2D hkl);have hcb:=HH.out.holds _ (a1v hlt);have T:=hid (acz hlt hkl);clear x0 d0;generalize l.getD k (0,0)=xd at *;obtain⟨n,d⟩:=xd;simp only at x1 d1 hx T;generalize c.getD k 0=cl at *;have m1:0<=cl * d/\cl * d<=1000 * 1000000:=⟨apk om om,apR om om om om⟩
   have E:Hid (a1c (cl * d-n * 1) (1 * d)= .agg #[.int .i64 (red (cl * d-n) d).1,.int .i64 (red (cl * d-n) d).2]):=hid (by rw[Int.mul_one,Int.one_mul];rfl);go_wp2_with fail
   refine(ajS cl 1 n d _ om om om om).mono ?_
   rintro e w2 ⟨rfl,hb2⟩;have hownW:=hown.below hb2;have hbW:=below_trans hbel hb2;clear hown hbel hb2 x1 d1 c1;rw[E.out];go_wp2_with (at_builtin;refine wpList_append_own _ rfl _ _ 195 rfl w.heap.size 199 i0 (.agg #[.int .i64 0,.int .i64 0]) 2 16 underlying195 hi0 hz0 hz1 hz2 rfl ox _ _ _ rfl (hownW.row.alloc _) ⟨w2.heap.size,0,none⟩ 1 1 [.int .i64 ((red (cl * d-n) d).1),.int .i64 ((red (cl * d-n) d).2)] rfl rfl (a5e _ _ _ _ rfl) ?c2 ?c3 ?c4 ?c5 ?_)
   case c2=>intro u hu;simp at hu;rcases hu with rfl|rfl<;>rfl
   case c3=>unfold maxLen;omega
   case c4=>omega
   case c5=>have:=hbW.size;simp;omega
   intro v' w3 hown' hgrow _;have O3:Hid (OwnR w3 (w.heap.size) v' ((a1r c l).take (k+1))):=hid (by rw[T.out];exact OwnR.snoc (by first|rfl|simp) hown');have B3:=hid (below_append hbW hbW.size hownW.row hgrow);clear hown' hgrow;clear hownW hbW;go_wp2;go_roundw
   case rel=>exact⟨k+1,om,by go_num,O3.out,B3.out⟩
   case measure=>simp[intOf];omega
  have e:k=c.length:=om;subst e;have O:Hid (OwnR wr w.heap.size u5 (a1r c l)):=hid (by rwa[aou (by rw[HL.out];exact aof _)]at hown);have B:=hid hbel;clear hown hbel;go_wp2;go_ret;exact⟨_,rfl,O.out,B.out⟩
end Go.Proofs.YtdfkaijeppdhaaaGreatDoor.Fd
