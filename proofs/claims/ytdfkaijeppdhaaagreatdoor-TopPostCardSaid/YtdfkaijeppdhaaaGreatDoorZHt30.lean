/- Part of the proof. -/
import Derived.Test.YtdfkaijeppdhaaaGreatDoorZHt28
import Derived.Test.YtdfkaijeppdhaaaGreatDoorZHt29

set_option maxRecDepth 100000
set_option maxHeartbeats 8000000

namespace Go.Proofs.YtdfkaijeppdhaaaGreatDoor.Fd
open Go.RowKit
def aoe(x:anm):List Value:=[.int .i64 x.1,.int .i64 x.2]
def a0S(l:List anm):List Value:=l.flatMap aoe
theorem afz(l:List anm)(x:anm):a0S (l++[x])=a0S l++[.int .i64 x.1,.int .i64 x.2]:=by simp[a0S,aoe]
theorem a3b:∀(l:List anm) (j:Nat),j<l.length->(a0S l)[j * 2]? =some (.int .i64 (l.getD j (0,0)).1)/\(a0S l)[j * 2+1]? =some (.int .i64 (l.getD j (0,0)).2)
 |d::l,0,_=>by simp[a0S,aoe]
 | d::l,j+1,h=>by
  have ih:=a3b l j (by simpa using h)
  have e:∀i,(a0S (d::l))[(j+1) * 2+i]? =(a0S l)[j * 2+i]? :=fun i=>by
   rw[show (j+1) * 2+i=(j * 2+i)+2 by omega];simp[a0S,aoe]
  have e0:=e 0;simp only[amX]at e0;rw[e0,e 1];simpa using ih
def OwnR(w:World)(B:Nat)(v:Value)(l:List anm):Prop:=w.ownsRow B 199 2 v l.length (a0S l)
theorem OwnR.at{W:World}{base:Nat}{v:Value}{l:List anm}(h:OwnR W base v l)(hl:l.length<=9223372036854775807):RatsAt W v l:=by
 rcases h.2 with⟨rfl,h0⟩|⟨g,cap,cur,rfl,hg,hh,h1,h2,h3,h4⟩
 ·exact⟨none,0,by rw[h0],⟨hl,by omega⟩,fun h=>by omega⟩
 refine⟨some ⟨g,0,none⟩,cap,rfl,⟨hl,h1⟩,fun h0=>⟨g,0,rfl,fun j hj=>?_⟩⟩;obtain⟨e1,e2⟩:=a3b l j hj;simp only[amg];exact⟨(World.ownsRow.cellAt h _ (by omega)).trans e1,(World.ownsRow.cellAt h _ (by omega)).trans e2⟩
theorem own_below{w w':World}{B:Nat}{e:TypeId}{size n:Nat}{v:Value}{xs:List Value}(h:w.ownsRow B e size v n xs)(hb:Below w.heap.size w w'):w'.ownsRow B e size v n xs:=by
 refine⟨h.1,?_⟩;rcases h.2 with hn|⟨g,cap,cur,rfl,hg,hh,r⟩
 ·exact .inl hn
 exact .inr ⟨g,cap,cur,rfl,hg,(hb.block g (alx.1 hh).1).trans hh,r⟩
theorem OwnR.below{w w':World}{B:Nat}{v:Value}{l:List anm}(h:OwnR w B v l)(hb:Below w.heap.size w w'):OwnR w' B v l:=own_below h hb
theorem OwnR.base{w:World}{B B':Nat}{v:Value}{l:List anm}(h:OwnR w B v l)(hB:B'<=B):OwnR w B' v l:=by
 refine⟨h.1,?_⟩;rcases h.2 with hn|⟨g,cap,cur,rfl,hg,r⟩
 ·exact .inl hn
 exact .inr ⟨g,cap,cur,rfl,alF hB hg,r⟩
theorem OwnR.nil(w:World)(B:Nat):OwnR w B (.slice none 0 0) []:=World.ownsRow_nil _ _ _ _
theorem OwnR.snoc{w:World}{B:Nat}{v:Value}{l:List anm}{x:anm}{n:Nat}(hn:n=l.length)(h:w.ownsRow B 199 2 v (n+1) (a0S l++[.int .i64 x.1,.int .i64 x.2])):OwnR w B v (l++[x]):=by
 unfold OwnR;rw[afz,alA,<-hn];exact h
theorem Tryz.infoRatio:(Tryz.prog.info? 199).map (fun i=>(i.zero,i.size,i.bytes))=some (some (.agg #[.int .i64 0,.int .i64 0]),2,16):=by kernel_rfl
theorem a48{n:Nat}(w:World)(x y:Value)(t:TypeId)(hn:w.heap.size=n):∀j u,[x,y][j]? =some u->(w.alloc (.cells #[x,y] t)).cell? ((⟨n,0,none⟩:Addr).add j)=some u:=by
 subst hn;intro j u hj;match j,hj with
 |0,hj=>simp at hj;subst hj;simp[Addr.add]
 |1,hj=>simp at hj;subst hj;simp[Addr.add]
theorem a3m{w wr:World}{t:TypeId}{x y:Value}(hb:Below (w.heap.size+1) (w.alloc (.cells #[x,y] t)) wr):
  (wr.cell? ⟨w.heap.size,0,none⟩=some x/\wr.cell? ⟨w.heap.size,1,none⟩=some y)/\wr.frozen? ⟨w.heap.size,0,none⟩=false/\wr.frozen? ⟨w.heap.size,1,none⟩=false:=
 ⟨⟨(hb.cell (p:=⟨w.heap.size,0,none⟩) (am2 _)).trans (by simp),(hb.cell (p:=⟨w.heap.size,1,none⟩) (am2 _)).trans (by simp)⟩,
  (hb.frozen (p:=⟨w.heap.size,0,none⟩) (am2 _)).trans (by simp),(hb.frozen (p:=⟨w.heap.size,1,none⟩) (am2 _)).trans (by simp)⟩
theorem a4W{w wr:World}{t:TypeId}{x y:Value}(hb:Below (w.heap.size+1) (w.alloc (.cells #[x,y] t)) wr)(a b:Value):
  Below w.heap.size w ((wr.setCell ⟨w.heap.size,0,none⟩ a).setCell ⟨w.heap.size,1,none⟩ b):=
 ((((apC _ w).alloc (aly _) _).trans (hb.mono (ama _))).setCell (aly _) _).setCell (aly _) _
theorem a4X(w:World)(a b c d:Value)(t:TypeId):Below w.heap.size w ((w.alloc (.cells #[a,b] t)).alloc (.cells #[c,d] t)):=((apC _ w).alloc (aly _) _).alloc (by simp) _
theorem a7N(a b c d:Int)(w:World)(h1: -1000000000000000000<=a * d/\a * d<=1000000000000000000)(h2: -1000000000000000000<=c * b/\c * b<=1000000000000000000):
  Calls Tryz.prog 293 #[.agg #[.int .i64 a,.int .i64 b],.agg #[.int .i64 c,.int .i64 d]] w fun e w'=>e= .returned (.int .i64 (Lib.compareInt (a * d) (c * b)))/\Below w.heap.size w w':=by
 have hal:=a4X w (.int .i64 a) (.int .i64 b) (.int .i64 c) (.int .i64 d) 199;go_enter Tryz.func293,Tryz.ntmps293;go_wp2_with fail
 refine(Tryz.cmp_Compare_int _ _ _).mono ?_
 rintro e w' ⟨rfl,rfl⟩;go_wp2;go_ret;exact⟨rfl,hal⟩
theorem afA(a b c d:Int)(w:World)(h1: -1000000000000000000<=a * d/\a * d<=1000000000000000000)(h2: -1000000000000000000<=c * b/\c * b<=1000000000000000000):
  Calls Tryz.prog 133 #[.agg #[.int .i64 a,.int .i64 b],.agg #[.int .i64 c,.int .i64 d]] w fun e w'=>e= .returned (.bool (decide (a * d<c * b)))/\Below w.heap.size w w':=by
 have hal:=a4X w (.int .i64 a) (.int .i64 b) (.int .i64 c) (.int .i64 d) 199;go_enter Tryz.func133,Tryz.ntmps133;go_wp2;go_ret;exact⟨rfl,hal⟩
theorem ajF(a b c d:Int)(w:World)(h1: -1000000000000000000<=a * d/\a * d<=1000000000000000000)(h2: -1000000000000000000<=c * b/\c * b<=1000000000000000000)(h3:1<=b * d/\b * d<=1000000000000000000):
  Calls Tryz.prog 321 #[.agg #[.int .i64 a,.int .i64 b],.agg #[.int .i64 c,.int .i64 d]] w fun e w'=>e= .returned (anE (a * d+c * b) (b * d))/\Below w.heap.size w w':=by
 have hal:=a4X w (.int .i64 a) (.int .i64 b) (.int .i64 c) (.int .i64 d) 199;go_enter Tryz.func321,Tryz.ntmps321;go_wp2_with fail
 refine(a44 _ _ _ (by omega) (by omega) (by omega) (by omega)).mono ?_
 rintro e w1 ⟨rfl,hb1⟩;generalize hW:(w.alloc (.cells #[.int .i64 a,.int .i64 b] 199)).alloc (.cells #[.int .i64 c,.int .i64 d] 199)=W at *
 have hs:W.heap.size=w.heap.size+2:=by rw[<-hW];simp
 have hbr:Below (W.heap.size+1) (W.alloc (.cells #[.int .i64 0,.int .i64 0] 199)) w1:=by rwa[apG]at hb1
 have e2:w.heap.size+1+1=W.heap.size:=by omega
 obtain⟨⟨c0,c1⟩,f0,f1⟩:=a3m hbr;have hB:=Lib.hid (below_trans hal (a4W hbr (.int .i64 (rn (a * d+c * b) (b * d))) (.int .i64 (rd (a * d+c * b) (b * d)))));rw[<-e2]at c0 c1 f0 f1 hB;clear hW hs hb1 hbr hal e2;unfold anE;go_wp2;exact bodyPost_ret (v:=anE (a * d+c * b) (b * d)) (by unfold anE;simp[results,Tryz.results321,go_sem,c0,c1]) rfl ⟨rfl,hB.out⟩
theorem ai0(a b c d:Int)(w:World)(h1: -1000000000000000000<=a * d/\a * d<=1000000000000000000)(h2: -1000000000000000000<=c * b/\c * b<=1000000000000000000)(h3:1<=b * d/\b * d<=1000000000000000000)(h4: -1000000000000000000<=c/\c<=1000000000000000000):
  Calls Tryz.prog 316 #[.agg #[.int .i64 a,.int .i64 b],.agg #[.int .i64 c,.int .i64 d]] w fun e w'=>e= .returned (anE (a * d-c * b) (b * d))/\Below w.heap.size w w':=by
 have hal:=a4X w (.int .i64 a) (.int .i64 b) (.int .i64 c) (.int .i64 d) 199;have hn: -c * b= -(c * b):=Int.neg_mul c b;have P:=Lib.hid (fun W=>ajF a b (-c) d W h1 (by rw[hn];omega) h3);have E:Hid (anE (a * d+ -c * b) (b * d)=anE (a * d-c * b) (b * d)):=Lib.hid (by rw[hn];rfl);clear hn;go_enter Tryz.func316,Tryz.ntmps316;go_wp2_with fail
 refine(P.out _).mono ?_
 rintro e w1 ⟨rfl,hb1⟩;rw[E.out];clear P E;generalize hW:(w.alloc (.cells #[.int .i64 a,.int .i64 b] 199)).alloc (.cells #[.int .i64 c,.int .i64 d] 199)=W at *
 have hs:W.heap.size=w.heap.size+2:=by rw[<-hW];simp
 have hbr:Below (W.heap.size+1) (W.alloc (.cells #[.int .i64 0,.int .i64 0] 199)) w1:=by rwa[apG]at hb1
 have e2:w.heap.size+1+1=W.heap.size:=by omega
 obtain⟨⟨c0,c1⟩,f0,f1⟩:=a3m hbr;have hB:=Lib.hid (below_trans hal (a4W hbr (.int .i64 (rn (a * d-c * b) (b * d))) (.int .i64 (rd (a * d-c * b) (b * d)))));rw[<-e2]at c0 c1 f0 f1 hB;clear hW hs hb1 hbr hal e2;unfold anE;go_wp2;exact bodyPost_ret (v:=anE (a * d-c * b) (b * d)) (by unfold anE;simp[results,Tryz.results316,go_sem,c0,c1]) rfl ⟨rfl,hB.out⟩
theorem adC{l:List Int}{k:Nat}(e1:Int)(hlt:k<l.length):a0h (l.drop k) e1=if e1<=l.getD k 0 * ((l.length:Int)-k)then (e1,(l.length:Int)-k)else a0h (l.drop (k+1)) (e1-l.getD k 0):=by
 have e:(((l.drop (k+1)).length:Nat):Int)+1=(l.length:Int)-k:=by simp;omega
 rw[am3 hlt,a0h,e,abs,alz hlt];rfl
theorem ajG(n d:Int):anE n d= .agg #[.int .i64 (red n d).1,.int .i64 (red n d).2]:=rfl
theorem ai1(v:Value)(c:List Int)(e0:Int)(w:World)(hv:IntsAt w v c)(hc:Cvl c)(he:0<=e0)(hes:e0<=tot c/\e0<=8000):
  Calls Tryz.prog 309 #[v,.int .i64 e0] w fun e w'=>e= .returned (anE (a0h (srt c) e0).1 (a0h (srt c) e0).2)/\Below w.heap.size w w':=by
 have hlen:(srt c).length=c.length:=a4n c
 have hhi:=hc.hi;have hlo:=hc.lo;have l8:(srt c).length<=8:=by omega
 have l1:0<(srt c).length:=by omega
 have hmem:Hid (∀j,j<(srt c).length->0<=(srt c).getD j 0/\(srt c).getD j 0<=1000):=Lib.hid (fun j hj=>hc.holds _ ((a47 c).mem_iff.1 (a16 hj)));have hal:Below w.heap.size w (w.alloc (.cells #[.int .i64 0,.int .i64 0] 199)):=(apC _ w).alloc (aly _) _
 have HV:=Lib.hid (hv.below hal);clear hlen hv hc;go_enter Tryz.func309,Tryz.ntmps309;go_wp2_with fail
 refine(afx _ _ _ HV.out).mono ?_
 rintro e w1 ⟨rfl,rfl⟩;go_wp2_with fail
 refine(afy _ v c (by omega) _ (by simp) (HV.out.below ((apC _ _).alloc (aly _) _))).mono ?_
 rintro e w1 ⟨v1,rfl,hrow,hb1⟩;have hbr:Below (w.heap.size+1) (w.alloc (.cells #[.int .i64 0,.int .i64 0] 199)) w1:=((apC _ _).alloc (by simp) _).trans (hb1.mono (by simp))
 obtain⟨b,off,cap,rfl,hcell⟩:=ints_cell (own_ints hrow (by omega)) l1;have HC:=Lib.hid hcell;clear hrow hb1 hcell;go_wp2;go_loop [1,14] (fun en i=>∃(k:Nat) (e1:Int),k<=(srt c).length/\i= .int .i64 k/\en= .int .i64 e1/\0<=e1/\e1<=8000/\Hid (a0h ((srt c).drop k) e1=a0h (srt c) e0)) (fun _ i=>(srt c).length-(intOf i).toNat)
 case atStart=>exact⟨0,e0,alE _,rfl,rfl,he,hes.2,Lib.hid rfl⟩
 case round=>
  obtain⟨k,e1,hk,rfl,rfl,g0,g1,H⟩:=hrel;by_cases hlt:k<(srt c).length
  ·have hx:=hmem.out k hlt;have hcell:=HC.out k hlt;have U:=Lib.hid (adC e1 hlt);generalize (srt c).getD k 0=x at *
   have m1:0<=x * (((srt c).length:Int)-k)/\x * (((srt c).length:Int)-k)<=1000 * 8:=⟨amw (by omega) (by omega),an4 (by omega) (by omega) (by omega) (by omega)⟩
   have m2:x * 1<=x * (((srt c).length:Int)-k):=ams (by omega) (by omega);by_cases hge:e1<=x * (((srt c).length:Int)-k)
   ·have R:Hid (a0h (srt c) e0=(e1,((srt c).length:Int)-k)):=Lib.hid (by rw[<-H.out,U.out,if_pos hge]);go_wp2_with fail
    refine(a44 _ _ _ (by omega) (by omega) (by omega) (by omega)).mono ?_
    rintro e w2 ⟨rfl,hb2⟩;have hbr2:=hbr.trans (hb2.mono (by have:=hbr.size;rwa[apG]at this));obtain⟨⟨c0,c1⟩,f0,f1⟩:=a3m hbr2;have hB:=Lib.hid (a4W hbr2 (.int .i64 (rn e1 (((srt c).length:Int)-k))) (.int .i64 (rd e1 (((srt c).length:Int)-k))));unfold anE;go_wp2;exact bodyPost_ret (v:=anE e1 (((srt c).length:Int)-k)) (by unfold anE;simp[results,Tryz.results309,go_sem,c0,c1]) rfl ⟨by rw[R.out],hB.out⟩
   have R:Hid (a0h ((srt c).drop (k+1)) (e1-x)=a0h (srt c) e0):=Lib.hid (by rw[<-H.out,U.out,if_neg hge]);go_wp2;go_round
   case rel=>exact⟨k+1,e1-x,by omega,by go_num,rfl,by omega,by omega,R⟩
   case measure=>simp[intOf];omega
  have e:k=(srt c).length:=by omega
  subst e;have R:Hid (a0h (srt c) e0=(0,1)):=Lib.hid (by rw[<-H.out,List.drop_length];rfl);go_wp2_with fail
  refine(a44 _ _ _ (by omega) (by omega) (by omega) (by omega)).mono ?_
  rintro e w2 ⟨rfl,hb2⟩;have hbr2:=hbr.trans (hb2.mono (by have:=hbr.size;rwa[apG]at this));obtain⟨⟨c0,c1⟩,f0,f1⟩:=a3m hbr2;have hB:=Lib.hid (a4W hbr2 (.int .i64 (rn 0 1)) (.int .i64 (rd 0 1)));unfold anE;go_wp2;exact bodyPost_ret (v:=anE 0 1) (by unfold anE;simp[results,Tryz.results309,go_sem,c0,c1]) rfl ⟨by rw[R.out],hB.out⟩
end Go.Proofs.YtdfkaijeppdhaaaGreatDoor.Fd
namespace Go.Proofs.YtdfkaijeppdhaaaGreatDoor.Fd
open Go.RowKit
theorem OwnR.row{w:World}{B:Nat}{v:Value}{l:List anm}(h:OwnR w B v l):w.ownsRow B 199 2 v l.length (a0S l):=h
def GivesR(l:List anm)(w:World)(e:Ending)(w':World):Prop:=∃v,e= .returned v/\OwnR w' w.heap.size v l/\Below w.heap.size w w'
theorem a4b{f:Int->anm}{c:List Int}{k:Nat}(hk:k<c.length):(c.map f).take (k+1)=(c.map f).take k++[f (c.getD k 0)]:=by
 rw[alC (by simpa using hk),abs,alz hk];simp
theorem aa5(v:Value)(c:List Int)(e0:Int)(w:World)(hv:IntsAt w v c)(hc:Cvl c)(he:0<=e0)(hes:e0<=8000):
  Calls Tryz.prog 300 #[v,.int .i64 e0] w (GivesR (a1l c e0) w):=by
 have HV:=Lib.hid hv;have HH:=Lib.hid hc;have hhi:=hc.hi;have hlo:=hc.lo;have ht:=a5r hc c.length (aly _);rw[alV]at ht;obtain⟨i0,hi0,hz0,hz1,hz2⟩:=info_parts Tryz.infoRatio;obtain⟨b,off,cap,rfl,hcc⟩:=ints_cell hv (by omega);have HC:=Lib.hid hcc;clear hv hc hcc;go_enter Tryz.func300,Tryz.ntmps300;go_wp2_with fail
 refine(a4r _ _ _ HV.out HH.out).mono ?_
 rintro e w' ⟨rfl,rfl⟩;have P:Hid (a1l c e0=c.map fun x=>red (x * e0) (max 1 (tot c))):=Lib.hid rfl;generalize tot c=tt at *;have ha:1<=max 1 tt/\max 1 tt<=8000:=by omega
 go_wp2;generalize max 1 tt=A at *;have hL:(a1l c e0).length=c.length:=by rw[P.out,alN]
 have HL:=Lib.hid hL;clear hL;go_loopw [6,14] (fun o i wr=>∃k:Nat,k<=c.length/\i= .int .i64 k/\OwnR wr w.heap.size o ((a1l c e0).take k)/\Below w.heap.size w wr) (fun _ i _=>c.length-(intOf i).toNat)
 case atStart=>exact⟨0,alE _,rfl,OwnR.nil _ _,apC _ _⟩
 case round=>
  obtain⟨k,hk,rfl,hown,hbel⟩:=hrel;have hTk:((a1l c e0).take k).length<=8:=by have:=HL.out;simp;omega
  by_cases hlt:k<c.length
  ·have hcell:=keep_cell hbel (HC.out k hlt);have hx:=HH.out.holds _ (a16 hlt);have T:Hid ((a1l c e0).take (k+1)=(a1l c e0).take k++[(rn (c.getD k 0 * e0) A,rd (c.getD k 0 * e0) A)]):=Lib.hid (by rw[P.out];exact a4b hlt);generalize c.getD k 0=x at *;have m1:0<=x * e0/\x * e0<=1000 * 8000:=⟨amw (by omega) (by omega),an4 (by omega) (by omega) (by omega) (by omega)⟩
   go_wp2_with fail
   refine(a44 _ _ _ (by omega) (by omega) (by omega) (by omega)).mono ?_
   rintro e w2 ⟨rfl,hb2⟩;have hownW:=hown.below hb2;have hbW:=below_trans hbel hb2;clear hown hbel hb2 hcell;unfold anE;go_wp2_with (at_builtin;refine wpList_append_own _ rfl _ _ 195 rfl w.heap.size 199 i0 (.agg #[.int .i64 0,.int .i64 0]) 2 16 Tryz.underlying195 hi0 hz0 hz1 hz2 rfl (by decide) _ _ _ rfl (hownW.row.alloc _) ⟨w2.heap.size,0,none⟩ 1 1 [.int .i64 (rn (x * e0) A),.int .i64 (rd (x * e0) A)] rfl rfl (a48 _ _ _ _ rfl) ?c2 ?c3 ?c4 ?c5 ?_)
   case c2=>intro u hu;simp at hu;rcases hu with rfl|rfl<;>rfl
   case c3=>unfold maxLen;omega
   case c4=>omega
   case c5=>have:=hbW.size;simp;omega
   intro v' w3 hown' hgrow _;have O3:Hid (OwnR w3 (w.heap.size) v' ((a1l c e0).take (k+1))):=Lib.hid (by rw[T.out];exact OwnR.snoc (by first|rfl|simp) hown');have B3:=Lib.hid (below_append hbW hbW.size hownW.row hgrow);clear hown' hgrow;clear hownW hbW;go_wp2;go_roundw
   case rel=>exact⟨k+1,by omega,by go_num,O3.out,B3.out⟩
   case measure=>simp[intOf];omega
  have e:k=c.length:=by omega
  subst e;have O:Hid (OwnR wr w.heap.size u6 (a1l c e0)):=Lib.hid (by rwa[alG (by rw[HL.out];exact aly _)]at hown);have B:=Lib.hid hbel;clear hown hbel;go_wp2;go_ret;exact⟨_,rfl,O.out,B.out⟩
theorem ai2{a b:Int}(h:a<b):Lib.compareInt a b= -1:=by unfold Lib.compareInt;rw[if_pos h]
theorem ai3{a b:Int}(h:¬a<b):0<=Lib.compareInt a b:=by unfold Lib.compareInt;rw[if_neg h];split<;>omega
theorem ajH{c:List Int}{e:Int}{k:Nat}(hk:k<c.length):
  (eqW c e).take (k+1)=(eqW c e).take k++[red (cap (a0h (srt c) e).1 (a0h (srt c) e).2 (c.getD k 0)) (a0h (srt c) e).2]:=a4b hk
theorem equal_any(v:Value)(c:List Int)(e0:Int)(w:World)(hv:IntsAt w v c)(hc:Cvl c)(he:0<=e0)(hes:e0<=tot c):
  Calls Tryz.prog 301 #[v,.int .i64 e0] w (GivesR (eqW c e0) w):=by
 have HV:=Lib.hid hv;have HH:=Lib.hid hc;have hhi:=hc.hi;have hlo:=hc.lo;have ht:=a5r hc c.length (aly _);rw[alV]at ht;obtain⟨i0,hi0,hz0,hz1,hz2⟩:=info_parts Tryz.infoRatio;have L1:=Lib.hid (ai1 v c e0 w hv hc he ⟨hes,by omega⟩);obtain⟨b,off,cap0,rfl,hcc⟩:=ints_cell hv (by omega);have HC:=Lib.hid hcc;have hbl:b<w.heap.size:=World.block_lt_of_cell? _ _ (hcc 0 (by omega));clear hv hc hcc;have hLv:(eqW c e0).length=c.length:=by unfold eqW aoa;rw[alN]
 have HL:=Lib.hid hLv;have q1:=a8e (srt c) e0;obtain⟨p1,p2,q2⟩:=a7b (srt c) e0 (fun x hx=>(HH.out.holds x ((a47 c).mem_iff.1 hx)).1) he;have hsl:=a4n c;have S:=Lib.hid (fun k hk=>ajH (c:=c) (e:=e0) (k:=k) hk);clear hLv;generalize hpp:(a0h (srt c) e0).1=p at *
 generalize hqq:(a0h (srt c) e0).2=q at *
 have rb:=a9w (n:=p) (d:=q) (B:=8000) q1 (by omega) (by omega);have rp:=a7u (n:=p) (d:=q) q1 (by omega);have q9:q<=9:=by omega
 clear hpp hqq hsl q2;have L2:Hid (Calls Tryz.prog 309 #[.slice (some ⟨b,off,none⟩) c.length cap0,.int .i64 e0] w fun e w'=>e= .returned (.agg #[.int .i64 (red p q).1,.int .i64 (red p q).2])/\Below w.heap.size w w'):=L1;have O1:=Lib.hid (fun x (h:x * (red p q).2<(red p q).1)=>al8 q1 h);have O2:=Lib.hid (fun x (h:¬x * (red p q).2<(red p q).1)=>al9 q1 h);clear L1;have R0:Hid (red p q=((red p q).1,(red p q).2)):=Lib.hid rfl;generalize (red p q).1=N at *
 generalize (red p q).2=D at *
 go_enter Tryz.func301,Tryz.ntmps301;go_wp2_with fail
 refine L2.out.mono ?_;rintro e w1 ⟨rfl,hb1⟩;have hsz:=hb1.size;clear L2;go_wp2;go_loopw [6,14] (fun o i wr=>∃k:Nat,k<=c.length/\i= .int .i64 k/\OwnR wr (w1.heap.size+1) o ((eqW c e0).take k)/\Below (w1.heap.size+1) (w1.alloc (.cells #[.int .i64 N,.int .i64 D] 199)) wr) (fun _ i _=>c.length-(intOf i).toNat)
 case atStart=>exact⟨0,alE _,rfl,OwnR.nil _ _,apC _ _⟩
 case round=>
  obtain⟨k,hk,rfl,hown,hbel⟩:=hrel;have hTk:((eqW c e0).take k).length<=8:=by have:=HL.out;simp;omega
  have hbel2:Below w.heap.size w wr:=hb1.trans (((apC _ _).alloc hsz _).trans (hbel.mono (by omega)));by_cases hlt:k<c.length
  ·have hcell:=keep_cell hbel2 (HC.out k hlt);have hx:=HH.out.holds _ (a16 hlt);have T0:=Lib.hid (S.out k hlt);obtain⟨⟨c0,c1⟩,f0,f1⟩:=a3m hbel;generalize c.getD k 0=x at *;have m1:0<=x * D/\x * D<=1000 * 9:=⟨amw (by omega) (by omega),an4 (by omega) (by omega) (by omega) (by omega)⟩
   have hwl:w1.heap.size<wr.heap.size:=by have:=hbel.size;rw[apG]at this;omega
   go_wp2_with fail
   refine(a7N x 1 N D _ (by omega) (by omega)).mono ?_
   rintro e w2 ⟨rfl,hb2⟩;have hownW:=hown.below hb2;have hbW:Below (w1.heap.size+1) (w1.alloc (.cells #[.int .i64 N,.int .i64 D] 199)) w2:=hbel.trans (hb2.mono (by have:=hbel.size;rwa[apG]at this));clear hown hbel hb2 hcell hbel2 c0 c1 f0 f1;obtain⟨⟨c0,c1⟩,f0,f1⟩:=a3m hbW;have hwl2:w1.heap.size<w2.heap.size:=by have:=hbW.size;rw[apG]at this;omega
   have hbs:w1.heap.size+1<=w2.heap.size:=hwl2;by_cases hlt2:x * D<N
   ·have hcm:=Lib.hid (ai2 (show x * D<N * 1 by omega));have T:Hid ((eqW c e0).take (k+1)=(eqW c e0).take k++[(x,1)]):=Lib.hid (by rw[T0.out,O1.out x (by omega)]);rw[hcm.out];go_wp2_with (at_builtin;refine wpList_append_own _ rfl _ _ 195 rfl (w1.heap.size+1) 199 i0 (.agg #[.int .i64 0,.int .i64 0]) 2 16 Tryz.underlying195 hi0 hz0 hz1 hz2 rfl (by decide) _ _ _ rfl (hownW.row.alloc _) ⟨w2.heap.size,0,none⟩ 1 1 [.int .i64 x,.int .i64 1] rfl rfl (a48 _ _ _ _ rfl) ?c2 ?c3 ?c4 ?c5 ?_)
    case c2=>intro u hu;simp at hu;rcases hu with rfl|rfl<;>rfl
    case c3=>unfold maxLen;omega
    case c4=>omega
    case c5=>simp;omega
    intro v' w3 hown' hgrow _;have O3:Hid (OwnR w3 (w1.heap.size+1) v' ((eqW c e0).take (k+1))):=Lib.hid (by rw[T.out];exact OwnR.snoc (by first|rfl|simp) hown');have B3:=Lib.hid (below_append hbW hbs hownW.row hgrow);clear hown' hgrow hownW hbW c0 c1 f0 f1;go_wp2;go_roundw
    case rel=>exact⟨k+1,by omega,by go_num,O3.out,B3.out⟩
    case measure=>simp[intOf];omega
   have hcm:=ai3 (show¬x * D<N * 1 by omega);have T:Hid ((eqW c e0).take (k+1)=(eqW c e0).take k++[(N,D)]):=Lib.hid (by rw[T0.out,O2.out x (by omega),R0.out]);generalize Lib.compareInt (x * D) (N * 1)=cv at *;go_wp2_with (at_builtin;refine wpList_append_own _ rfl _ _ 195 rfl (w1.heap.size+1) 199 i0 (.agg #[.int .i64 0,.int .i64 0]) 2 16 Tryz.underlying195 hi0 hz0 hz1 hz2 rfl (by decide) _ _ _ rfl (hownW.row.alloc _) ⟨w2.heap.size,0,none⟩ 1 1 [.int .i64 N,.int .i64 D] rfl rfl (a48 _ _ _ _ rfl) ?c2 ?c3 ?c4 ?c5 ?_)
   case c2=>intro u hu;simp at hu;rcases hu with rfl|rfl<;>rfl
   case c3=>unfold maxLen;omega
   case c4=>omega
   case c5=>simp;omega
   intro v' w3 hown' hgrow _;have O3:Hid (OwnR w3 (w1.heap.size+1) v' ((eqW c e0).take (k+1))):=Lib.hid (by rw[T.out];exact OwnR.snoc (by first|rfl|simp) hown');have B3:=Lib.hid (below_append hbW hbs hownW.row hgrow);clear hown' hgrow hownW hbW c0 c1 f0 f1;go_wp2;go_roundw
   case rel=>exact⟨k+1,by omega,by go_num,O3.out,B3.out⟩
   case measure=>simp[intOf];omega
  have e:k=c.length:=by omega
  subst e;have O:Hid (OwnR wr w.heap.size u6 (eqW c e0)):=Lib.hid (by rw[alG (by rw[HL.out];exact aly _)]at hown;exact hown.base (by omega));have B:=Lib.hid hbel2;clear hown hbel hbel2;go_wp2;go_ret;exact⟨_,rfl,O.out,B.out⟩
end Go.Proofs.YtdfkaijeppdhaaaGreatDoor.Fd
namespace Go.Proofs.YtdfkaijeppdhaaaGreatDoor.Fd
open Go.RowKit
def Mod(l:List anm):Prop:=∀x∈l, -1000000000<=x.1/\x.1<=1000000000/\1<=x.2/\x.2<=1000000
theorem aaN{l:List anm}{k:Nat}(hk:k<l.length):(a0p l).take (k+1)=(a0p l).take k++[red (l.getD k (0,0)).1 (2 * (l.getD k (0,0)).2)]:=by
 unfold a0p;rw[alC (by simpa using hk),abs,alz hk];simp
theorem aaO{c:List Int}{l:List anm}{k:Nat}(hk:k<c.length)(hl:k<l.length):
  (a14 c l).take (k+1)=(a14 c l).take k++[red (c.getD k 0 * (l.getD k (0,0)).2-(l.getD k (0,0)).1) (l.getD k (0,0)).2]:=by
 unfold a14;rw[alC (by simp;omega),abs,alz hk,abs,alz hl];simp
theorem a7c(c:List Int)(l:List anm)(h:l.length=c.length):(a14 c l).length=c.length:=by
 unfold a14;simp;omega
theorem acx(v:Value)(l:List anm)(w:World)(hv:RatsAt w v l)(hl:l.length<=8)(hm:Mod l):
  Calls Tryz.prog 311 #[v] w (GivesR (a0p l) w):=by
 obtain⟨i0,hi0,hz0,hz1,hz2⟩:=info_parts Tryz.infoRatio;obtain⟨a,cap,rfl,hlc,hq⟩:=hv;have HQ:=Lib.hid hq;have HM:=Lib.hid hm;have HL:Hid ((a0p l).length=l.length):=Lib.hid (by unfold a0p;rw[alN]);clear hq hm;go_enter Tryz.func311,Tryz.ntmps311;go_wp2;go_loopw [3,8] (fun o i wr=>∃k:Nat,k<=l.length/\i= .int .i64 k/\OwnR wr w.heap.size o ((a0p l).take k)/\Below w.heap.size w wr) (fun _ i _=>l.length-(intOf i).toNat)
 case atStart=>exact⟨0,alE _,rfl,OwnR.nil _ _,apC _ _⟩
 case round=>
  obtain⟨k,hk,rfl,hown,hbel⟩:=hrel;have hTk:((a0p l).take k).length<=8:=by have:=HL.out;simp;omega
  by_cases hlt:k<l.length
  ·obtain⟨b,off,rfl,hc⟩:=HQ.out (by omega);obtain⟨x0,d0⟩:=hc k hlt;have x1:=keep_cell hbel x0;have d1:=keep_cell hbel d0;have hx:=HM.out _ (a1Y hlt);have T:=Lib.hid (aaN hlt);clear hc x0 d0;generalize l.getD k (0,0)=xd at *;obtain⟨n,d⟩:=xd;simp only at x1 d1 hx T;have hsz:=hbel.size;go_wp2_with fail
   refine(a44 _ _ _ (by omega) (by omega) (by omega) (by omega)).mono ?_
   rintro e w2 ⟨rfl,hb2⟩;have hal:Below wr.heap.size wr (wr.alloc (.cells #[.int .i64 n,.int .i64 d] 199)):=(apC _ _).alloc (aly _) _
   have hownW:=(hown.below hal).below hb2
   have hbW:=below_trans hbel (below_trans hal hb2);clear hown hbel hb2 x1 d1 hal;unfold anE;go_wp2_with (at_builtin;refine wpList_append_own _ rfl _ _ 195 rfl w.heap.size 199 i0 (.agg #[.int .i64 0,.int .i64 0]) 2 16 Tryz.underlying195 hi0 hz0 hz1 hz2 rfl (by decide) _ _ _ rfl (hownW.row.alloc _) ⟨w2.heap.size,0,none⟩ 1 1 [.int .i64 (rn n (2 * d)),.int .i64 (rd n (2 * d))] rfl rfl (a48 _ _ _ _ rfl) ?c2 ?c3 ?c4 ?c5 ?_)
   case c2=>intro u hu;simp at hu;rcases hu with rfl|rfl<;>rfl
   case c3=>unfold maxLen;omega
   case c4=>omega
   case c5=>have:=hbW.size;simp;omega
   intro v' w3 hown' hgrow _;have O3:Hid (OwnR w3 (w.heap.size) v' ((a0p l).take (k+1))):=Lib.hid (by rw[T.out];exact OwnR.snoc (by first|rfl|simp) hown');have B3:=Lib.hid (below_append hbW hbW.size hownW.row hgrow);clear hown' hgrow;clear hownW hbW;go_wp2;go_roundw
   case rel=>exact⟨k+1,by omega,by go_num,O3.out,B3.out⟩
   case measure=>simp[intOf];omega
  have e:k=l.length:=by omega
  subst e;have O:Hid (OwnR wr w.heap.size u3 (a0p l)):=Lib.hid (by rwa[alG (by rw[HL.out];exact aly _)]at hown);have B:=Lib.hid hbel;clear hown hbel;go_wp2;go_ret;exact⟨_,rfl,O.out,B.out⟩
theorem acy(v x:Value)(c:List Int)(l:List anm)(w:World)(hv:IntsAt w v c)(hx:RatsAt w x l)(hc:Cvl c)(hl:l.length=c.length)(hm:Mod l):
  Calls Tryz.prog 310 #[v,x] w (GivesR (a14 c l) w):=by
 obtain⟨i0,hi0,hz0,hz1,hz2⟩:=info_parts Tryz.infoRatio;have hhi:=hc.hi;have hlo:=hc.lo;have lc:c.length<=l.length:=by omega
 obtain⟨b,off,cap,rfl,hcc⟩:=ints_cell hv (by omega);obtain⟨b2,off2,cap2,hcap,rfl,hcl⟩:=aaJ hx (by omega);have HC:=Lib.hid hcc;have HR:=Lib.hid hcl;have HM:=Lib.hid hm;have HH:=Lib.hid hc;have HL:=Lib.hid (a7c c l hl);clear hm hv hx hc hl hcc hcl;go_enter Tryz.func310,Tryz.ntmps310;go_wp2;go_loopw [5,10] (fun o i wr=>∃k:Nat,k<=c.length/\i= .int .i64 k/\OwnR wr w.heap.size o ((a14 c l).take k)/\Below w.heap.size w wr) (fun _ i _=>c.length-(intOf i).toNat)
 case atStart=>exact⟨0,alE _,rfl,OwnR.nil _ _,apC _ _⟩
 case round=>
  obtain⟨k,hk,rfl,hown,hbel⟩:=hrel;have hTk:((a14 c l).take k).length<=8:=by have:=HL.out;simp;omega
  by_cases hlt:k<c.length
  ·have hkl:k<l.length:=by omega
   obtain⟨x0,d0⟩:=HR.out k hkl;have x1:=keep_cell hbel x0;have d1:=keep_cell hbel d0;have c1:=keep_cell hbel (HC.out k hlt);have hx:=HM.out _ (a1Y hkl);have hcb:=HH.out.holds _ (a16 hlt);have T:=Lib.hid (aaO hlt hkl);clear x0 d0;generalize l.getD k (0,0)=xd at *;obtain⟨n,d⟩:=xd;simp only at x1 d1 hx T;generalize c.getD k 0=cl at *;have m1:0<=cl * d/\cl * d<=1000 * 1000000:=⟨amw (by omega) (by omega),an4 (by omega) (by omega) (by omega) (by omega)⟩
   have E:Hid (anE (cl * d-n * 1) (1 * d)= .agg #[.int .i64 (red (cl * d-n) d).1,.int .i64 (red (cl * d-n) d).2]):=Lib.hid (by rw[Int.mul_one,Int.one_mul];rfl);go_wp2_with fail
   refine(ai0 cl 1 n d _ (by omega) (by omega) (by omega) (by omega)).mono ?_
   rintro e w2 ⟨rfl,hb2⟩;have hownW:=hown.below hb2;have hbW:=below_trans hbel hb2;clear hown hbel hb2 x1 d1 c1;rw[E.out];go_wp2_with (at_builtin;refine wpList_append_own _ rfl _ _ 195 rfl w.heap.size 199 i0 (.agg #[.int .i64 0,.int .i64 0]) 2 16 Tryz.underlying195 hi0 hz0 hz1 hz2 rfl (by decide) _ _ _ rfl (hownW.row.alloc _) ⟨w2.heap.size,0,none⟩ 1 1 [.int .i64 ((red (cl * d-n) d).1),.int .i64 ((red (cl * d-n) d).2)] rfl rfl (a48 _ _ _ _ rfl) ?c2 ?c3 ?c4 ?c5 ?_)
   case c2=>intro u hu;simp at hu;rcases hu with rfl|rfl<;>rfl
   case c3=>unfold maxLen;omega
   case c4=>omega
   case c5=>have:=hbW.size;simp;omega
   intro v' w3 hown' hgrow _;have O3:Hid (OwnR w3 (w.heap.size) v' ((a14 c l).take (k+1))):=Lib.hid (by rw[T.out];exact OwnR.snoc (by first|rfl|simp) hown');have B3:=Lib.hid (below_append hbW hbW.size hownW.row hgrow);clear hown' hgrow;clear hownW hbW;go_wp2;go_roundw
   case rel=>exact⟨k+1,by omega,by go_num,O3.out,B3.out⟩
   case measure=>simp[intOf];omega
  have e:k=c.length:=by omega
  subst e;have O:Hid (OwnR wr w.heap.size u5 (a14 c l)):=Lib.hid (by rwa[alG (by rw[HL.out];exact aly _)]at hown);have B:=Lib.hid hbel;clear hown hbel;go_wp2;go_ret;exact⟨_,rfl,O.out,B.out⟩
end Go.Proofs.YtdfkaijeppdhaaaGreatDoor.Fd
