/- Part of the proof. -/
import Derived.Test.YtdfkaijeppdhaaaGreatDoorZHs10
set_option maxRecDepth 100000
set_option maxHeartbeats 8000000

namespace Go.Proofs.YtdfkaijeppdhaaaGreatDoor
open Lib (hid)
open Proofs.Tryz Go.RowKit Go.Shelf Go.Proofs
def eqE(x y:Ent):Bool:=x.1==y.1&&(x.2.1==y.2.1&&(x.2.2.1==y.2.2.1&&x.2.2.2.toList==y.2.2.2.toList))
theorem a6z(x y:Ent):eqE x y=true↔x=y:=by
 obtain⟨a,b,c,d⟩:=x;obtain⟨a',b',c',d'⟩:=y;unfold eqE;simp only[Bool.and_eq_true,beq_iff_eq,Prod.mk.injEq];refine and_congr_right fun _=>and_congr_right fun _=>and_congr_right fun _=>⟨fun h=>?_,fun h=>by rw[h]⟩
 rw[ba_list,ba_list]at h;exact ba_ext h
theorem neqE:NeqAt prog 43 (fun x:Ent=>.agg (a1s x).toArray) eqE:=by
 refine⟨fun x y w=>?_,GuardAt.agg _ ot⟩;have u3:=underlying3;have a3:=isAgg3;have z3:=sizeOf3;have u9:=underlying9;have a9:=isAgg9;have z9:=sizeOf9;have hS:prog.underlying 43=some (.struct (prog.fieldsOf 43)):=ot;have hp:prog.stoodInHeld 43=false:=ot;obtain⟨a,b,c,d⟩:=x;obtain⟨a',b',c',d'⟩:=y;simp only[a1s,a07,a0r,a0a,a0b,eqE];rw[run_neq_struct,show (10000:Nat)=9999+1 from rfl,run_equalIn_agg w 9999 43 _ _ hS hp];simp only[Program.fieldsOf,underlying43];go_simp;by_cases h1:a=a'<;>by_cases h2:b=b'<;>by_cases h3:c=c'<;>by_cases h4:d.toList=d'.toList<;>simp[h1,h2,h3,h4]
theorem ac9:∀(xs ys:List Ent),xs.length=ys.length->(Lib.allEq eqE xs ys=true↔xs=ys)
 |[],[],_=>by simp[Lib.allEq]
 |x::xs,y::ys,h=>by
  have ih:=ac9 xs ys (by simpa using h);unfold Lib.allEq;rw[Bool.and_eq_true,a6z,ih,List.cons.injEq]
theorem equal_any(xs ys:List Ent)(n c1 c2:Nat)(a1 a2:Option Addr)(hn:xs.length=n)(hn2:ys.length=n)(hbig:n<=1000)(w:World)(h1:EntsAt w (.slice a1 n c1) xs)(h2:EntsAt w (.slice a2 n c2) ys):
  Calls prog 96 #[.slice a1 n c1,.slice a2 n c2] w fun e w'=>e= .returned (.bool (decide (xs=ys)))/\Below w.heap.size w w':=by
 by_cases h0:0<n
 ·obtain⟨b1,o1,k1,e1,hc1⟩:=h1.cells om;obtain⟨b2,o2,k2,e2,hc2⟩:=h2.cells om;simp only[Value.slice.injEq]at e1 e2;obtain⟨rfl,_,rfl⟩:=e1;obtain⟨rfl,_,rfl⟩:=e2
  have key:∀(l:List Ent) (b o:Nat),(∀j,j<l.length->w.cell? ⟨b,o+j * 4,none⟩=some (.int .i64 (a07 (l.getD j (0,0,0,⟨#[]⟩))))/\w.cell? ⟨b,o+j * 4+1,none⟩=some (.int .i64 (a0r (l.getD j (0,0,0,⟨#[]⟩))))/\
   w.cell? ⟨b,o+j * 4+2,none⟩=some (.int .i64 (a0a (l.getD j (0,0,0,⟨#[]⟩))))/\w.cell? ⟨b,o+j * 4+3,none⟩=some (.string (a0b (l.getD j (0,0,0,⟨#[]⟩)))))->
   ∀j,j<l.length->∀i v,(a1s l[j]!)[i]? =some v->w.cell? ⟨b,o+j * 4+i,none⟩=some v:=by
   intro l b o h j hj i v hv;obtain⟨q0,q1,q2,q3⟩:=h j hj
   have he:l.getD j (0,0,0,⟨#[]⟩)=l[j]! :=by
    rw[aoh,aoj hj,getElem!_pos l j hj];rfl
   rw[he]at q0 q1 q2 q3;have hi:i<4:=(api.1 hv).1
   rcases (show i=0\/i=1\/i=2\/i=3 by omega)with rfl|rfl|rfl|rfl<;>simp only[a1s,List.getElem?_cons_zero,List.getElem?_cons_succ,Option.some.injEq]at hv<;>subst hv<;>assumption
  refine(AnyQ.slices_Equal Tryz.equalE 4 isAgg43 sizeOf43 a1s (fun _=>rfl) eqE neqE b1 o1 n c1 b2 o2 n c2 xs ys w om om om om (key xs b1 o1 hc1) (key ys b2 o2 hc2)).mono ?_
  rintro e w' ⟨rfl,q,rfl⟩;refine⟨?_,a0q (aoi _ _) _⟩;rw[aou om,aou om];congr 2;rw[Bool.eq_iff_iff,ac9 xs ys om,decide_eq_true_eq]
 have hz:n=0:=om;have e1:xs=[]:=aoz.1 om;have e2:ys=[]:=aoz.1 om;subst e1 e2 hz;clear h1 h2 hn hn2;go_enter func96,ntmps96;go_wp2;go_loopw [13] (fun i wr=>i= .int .i64 0/\w=wr) (fun _ _=>0)
 case atStart=>exact⟨rfl,rfl⟩
 case round=>
  obtain⟨rfl,rfl⟩:=hrel;go_wp2;go_ret;exact⟨rfl,aoi _ _⟩
def aiM(l:List Ent)(w:World)(e:Ending)(w':World):Prop:=∃v,e= .returned v/\w'.ownsRow w.heap.size 43 4 v l.length (a0i l)/\Below w.heap.size w w'
theorem aca(v:Value)(l:List Ent)(w:World)(h:ListAt w v l)(hl:l.length<=1000):Calls prog 97 #[v] w (aiM l w):=by
 obtain⟨i0,hi0,hz0,hz1,hz2⟩:=info_parts Tryz.infoEnt;rcases h.forms with⟨rfl,rfl⟩|⟨g,cap,rfl,hc⟩
 ·refine(AnyE.slices_Clone_nil Tryz.cloneE 0 0 w).mono ?_
  rintro e w' ⟨rfl,rfl⟩;exact⟨_,rfl,World.ownsRow_nil _ _ _ _,aoi _ _⟩
 refine(AnyE.slices_Clone Tryz.cloneE i0 _ 4 40 hi0 hz0 hz1 hz2 rfl ox sizeOf43 g 0 l.length cap (a0i l) w h.1 (by unfold maxLen;omega) om (fun j u hj=>?_) (a3s l)).mono ?_
 ·have hjl:=(api.1 hj).1
  rw[a18]at hjl;rw[h.cellAt (0+j) om,ap5,hj]
 rintro e w' ⟨v',rfl,ho,_,hb⟩;exact⟨v',rfl,ho,hb⟩
end Go.Proofs.YtdfkaijeppdhaaaGreatDoor
namespace Go.Proofs.YtdfkaijeppdhaaaGreatDoor
open Lib (hid)
open Proofs.Tryz Go.RowKit Go.Shelf
theorem akS{l m:List Ent}(h:m.length<l.length):a0R l m=decide (m=l.take m.length):=by
 unfold a0R;rw[Bool.eq_iff_iff,Bool.or_eq_true,decide_eq_true_eq,decide_eq_true_eq,decide_eq_true_eq];constructor
 ·rintro(h1|h1)
  ·have:=h1.length_le;omega
  exact apw.1 h1
 intro h1;exact .inr (apw.2 h1)
theorem aiN{l m:List Ent}(h:¬m.length<l.length):a0R l m=decide (l=m.take l.length):=by
 unfold a0R;rw[Bool.eq_iff_iff,Bool.or_eq_true,decide_eq_true_eq,decide_eq_true_eq,decide_eq_true_eq];constructor
 ·rintro(h1|h1)
  ·exact apw.1 h1
  have h2:=h1.length_le;have h3:=h1.eq_of_length om;rw[h3,aoK]
 intro h1;exact .inl (apw.2 h1)
theorem ListAt.ents_take{w:World}{a:Option Addr}{n cap k:Nat}{l:List Ent}(h:ListAt w (.slice a n cap) l)(hn:l.length=n)(hk:k<=n)(hbig:n<=1000):EntsAt w (.slice a k cap) (l.take k):=by
 have hlen:(l.take k).length=k:=by rw[aoy];omega
 refine⟨a,cap,by rw[hlen],om,fun h0=>?_⟩;rw[hlen]at h0;rcases h.2 with⟨h1,h2⟩|⟨g,cap',cur,h1,hrest⟩
 ·omega
 simp only[Value.slice.injEq]at h1;obtain⟨rfl,_,rfl⟩:=h1;refine⟨g,0,rfl,fun j c x hc hx=>?_⟩;have hjl:=(api.1 hx).1
 rw[a18,hlen]at hjl;have hsp:a0i l=a0i (l.take k)++a0i (l.drop k):=by rw[<-a2f,ap9]
 have h9:w.ownsRow 0 43 4 (.slice (some ⟨g,0,none⟩) n cap) n (a0i l):=by unfold ListAt at h;rw[hn]at h;exact h
 have hr:=h9.cellAt (j * 4+c) om;rw[ap5,hr,hsp,apn (by rw[a18,hlen];exact hjl),hx]
theorem ListAt.cap_le{w:World}{a:Option Addr}{n cap:Nat}{l:List Ent}(h:ListAt w (.slice a n cap) l)(hn:l.length=n):n<=cap:=by
 rcases h.forms with⟨h9,rfl⟩|⟨g,c,h9,h8⟩
 ·simp only[Value.slice.injEq]at h9;simp at hn;omega
 simp only[Value.slice.injEq]at h9;omega
structure NewBook(w:World)(lo:Nat)(us:Nat->Value)(c:a00):Prop where
 list:∀i,i<4->ListAt w (us i) (c i)
 low:∀i,i<4->∀g,(us i).ownBlock=some g->lo<=g
 apart:∀i j,i<4->j<4->i≠j->∀g,(us i).ownBlock=some g->(us j).ownBlock≠some g
theorem NewBook.below{w w':World}{lo:Nat}{us:Nat->Value}{c:a00}(h:NewBook w lo us c)(hb:Below w.heap.size w w'):NewBook w' lo us c:=
 ⟨fun i hi=>(h.list i hi).keep fun k hk=>hb.block k ((h.list i hi).lt hk),h.low,h.apart⟩
def a6n(us:Nat->Value):Value:=.agg #[us 0,us 1,us 2,us 3]
def a9x(b1 b2:a00)(w:World)(e:Ending)(w':World):Prop:=
 (match a3T b1 b2 with
  |some c=>∃us,e= .returned (.tuple #[a6n us,.bool true])/\NewBook w' w.heap.size us c
  |none=>e= .returned (.tuple #[a6n (fun _=>.slice none 0 0),.bool false]))/\Below w.heap.size w w'
theorem a9y{b1 b2:a00}(h:∀i,i<4->a0R (b1 i) (b2 i)=true):a3T b1 b2=some (a4l b1 b2):=by
 unfold a3T;rw[h 0 om,h 1 om,h 2 om,h 3 om];rfl
theorem adG{b1 b2:a00}{k:Nat}(hk:k<4)(h:a0R (b1 k) (b2 k)=false):a3T b1 b2=none:=by
 unfold a3T;rw[if_neg];simp only[Bool.and_eq_true];rintro⟨⟨⟨h0,h1⟩,h2⟩,h3⟩;rcases (show k=0\/k=1\/k=2\/k=3 by omega)with rfl|rfl|rfl|rfl<;>simp_all
structure Outs(b1 b2:a00)(B R:Nat)(k:Nat)(us:Nat->Value)(w wr:World):Prop where
 cells:wr.heap[B]? =some (.cells #[us 0,us 1,us 2,us 3] 96 (0,0))
 res:wr.heap[R]? =some (.cells #[.slice none 0 0,.slice none 0 0,.slice none 0 0,.slice none 0 0] 96 (0,0))
 done:∀i,i<k->wr.ownsRow (B+1) 43 4 (us i) (a1g (b1 i) (b2 i)).length (a0i (a1g (b1 i) (b2 i)))
 todo:∀i,k<=i->us i= .slice none 0 0
 apart:∀i j,i<4->j<4->i≠j->∀g,(us i).ownBlock=some g->(us j).ownBlock≠some g
 below:Below w.heap.size w wr
 fits:∀i,i<k->a0R (b1 i) (b2 i)=true
theorem Outs.below'{b1 b2:a00}{B R k:Nat}{us:Nat->Value}{w wr w':World}(h:Outs b1 b2 B R k us w wr)(hb:Below wr.heap.size wr w'):Outs b1 b2 B R k us w w':=
 ⟨(hb.block B (aog.1 h.cells).1).trans h.cells,(hb.block R (aog.1 h.res).1).trans h.res,fun i hi=>own_below (h.done i hi) hb,h.todo,h.apart,h.below.trans (hb.mono h.below.size),h.fits⟩
theorem Outs.next{b1 b2:a00}{B R k:Nat}{us:Nat->Value}{w wr w':World}{v:Value}(h:Outs b1 b2 B R k us w wr)(hk:k<4)(hB:w.heap.size<=B)(hRB:R≠B)(hsz:B+1<=wr.heap.size)(_hR:R<=B)(hf:a0R (b1 k) (b2 k)=true)
  (hv:w'.ownsRow wr.heap.size 43 4 v (a1g (b1 k) (b2 k)).length (a0i (a1g (b1 k) (b2 k))))(hb:Below wr.heap.size wr w'):Outs b1 b2 B R (k+1) (a1m us k v) w (w'.setCell ⟨B,k,none⟩ v):=by
 have h':=h.below' hb;have hset:∀j,j≠B->(w'.setCell ⟨B,k,none⟩ v).heap[j]? =w'.heap[j]? :=fun j hj=>aok _ _ _ j hj
 refine⟨?_,(hset R hRB).trans h'.res,fun i hi=>?_,fun i hi=>?_,fun i j hi hj hij g hg hg2=>?_,h'.below.setCell (p:=⟨B,k,none⟩) hB v,fun i hi=>?_⟩
 ·rw[a0K h'.cells];unfold a1m;rcases (show k=0\/k=1\/k=2\/k=3 by omega)with rfl|rfl|rfl|rfl<;>simp
 ·by_cases e:i=k
  ·subst e;rw[a0D];exact a3r (a2l hv hsz) fun j hj=>hset j om
  rw[a0m _ _ e];exact a3r (h'.done i om) fun j hj=>hset j om
 ·rw[a0m _ _ om];exact h.todo i om
 ·have hlow:∀x,x≠k->∀g,(us x).ownBlock=some g->g<wr.heap.size:=fun x hx g hg=>by
   by_cases hxk:x<k
   ·exact((h.done x hxk).lt g hg).2
   rw[h.todo x om]at hg;simp[Value.ownBlock]at hg
  by_cases ei:i=k
  ·subst ei;rw[a0D]at hg;rw[a0m _ _ (Ne.symm hij)]at hg2;have h1:=(hv.lt g hg).1
   have h2:=hlow j (Ne.symm hij) g hg2;omega
  rw[a0m _ _ ei]at hg;by_cases ej:j=k
  ·subst ej;rw[a0D]at hg2;have h1:=(hv.lt g hg2).1
   have h2:=hlow i ei g hg;omega
  rw[a0m _ _ ej]at hg2;exact h.apart i j hi hj hij g hg hg2
 by_cases e:i=k
 ·subst e;exact hf
 exact h.fits i om
theorem aak(K1 K2:Nat)(vs1 vs2:Nat->Value)(b1 b2:a00)(w:World)(h1:BookIs w K1 vs1 b1)(h2:BookIs w K2 vs2 b2)(hl1:∀i,i<4->(b1 i).length<=60)(hl2:∀i,i<4->(b2 i).length<=60):
  Calls prog 65 #[.pointer (some ⟨K1,0,none⟩),.pointer (some ⟨K2,0,none⟩)] w (a9x b1 b2 w):=by
 obtain⟨w2,hw2⟩:∃w2,w2=(w.alloc (.cells #[.slice none 0 0,.slice none 0 0,.slice none 0 0,.slice none 0 0] 96)).alloc (.cells #[.slice none 0 0,.slice none 0 0,.slice none 0 0,.slice none 0 0] 96):=⟨_,rfl⟩
 have HO2:Hid (Outs b1 b2 (w.heap.size+1) w.heap.size 0 (fun _=>.slice none 0 0) w w2):=hid (by
  have hb:Below w.heap.size w w2:=by rw[hw2];exact((aoi _ w).alloc (aof _) _).alloc oz _
  refine⟨?_,?_,fun i hi=>om,fun i hi=>rfl,fun i j hi hj hij g hg=>by simp[Value.ownBlock]at hg,hb,fun i hi=>om⟩
  ·have:=World.alloc_heap_new (w.alloc (.cells #[.slice none 0 0,.slice none 0 0,.slice none 0 0,.slice none 0 0] 96)) (.cells #[.slice none 0 0,.slice none 0 0,.slice none 0 0,.slice none 0 0] 96);rw[aoq]at this;rw[hw2];exact this
  rw[hw2];exact(aop _ _ _ oz).trans (World.alloc_heap_new w _))
 have hz:w.heap.size+2<=w2.heap.size:=by rw[hw2];simp
 have HW2:=hid hw2;have H1:=hid h1;have H2:=hid h2;have HL1:=hid hl1;have HL2:=hid hl2;clear hw2 h1 h2 hl1 hl2;go_enter func65,ntmps65;go_wp2_with fail
 rw[<-HW2.out];go_loopw [13] (fun i wr=>∃(k:Nat) (us:Nat->Value),k<=4/\i= .int .i64 k/\Hid (Outs b1 b2 (w.heap.size+1) w.heap.size k us w wr)/\w.heap.size+2<=wr.heap.size) (fun i _=>4-(intOf i).toNat)
 case atStart=>exact⟨0,_,aot _,rfl,HO2,hz⟩
 case round=>
  obtain⟨k,us,hk,rfl,ho,hwz⟩:=hrel;by_cases hlt:k<4
  ·have hlt2:(k:Int)<4:=om;have hge:(0:Int)<=(k:Int):=om;have K1r:=hid (H1.out.below ho.out.below);have K2r:=hid (H2.out.below ho.out.below);obtain⟨a1,c1,e1⟩:=K1r.out.slice hlt;obtain⟨a2,c2,e2⟩:=K2r.out.slice hlt;have q1:=K1r.out.cell hlt;have q2:=K2r.out.cell hlt;rw[e1]at q1;rw[e2]at q2;have HA1:Hid (ListAt wr (.slice a1 (b1 k).length c1) (b1 k)):=hid (by rw[<-e1];exact K1r.out.list k hlt);have HA2:Hid (ListAt wr (.slice a2 (b2 k).length c2) (b2 k)):=hid (by rw[<-e2];exact K2r.out.list k hlt);have B1:=HL1.out k hlt;have B2:=HL2.out k hlt;clear e1 e2;have HFL:=hid (fun(h:(b2 k).length<(b1 k).length)=>akS (l:=b1 k) (m:=b2 k) h);have HFS:=hid (fun(h:¬(b2 k).length<(b1 k).length)=>aiN (l:=b1 k) (m:=b2 k) h);have HJN:=hid (fun(h:a0R (b1 k) (b2 k)=false)=>adG (b1:=b1) (b2:=b2) hlt h);have HNXT:=hid (fun(w':World) (v:Value) (hf:a0R (b1 k) (b2 k)=true) (hv:w'.ownsRow wr.heap.size 43 4 v (a1g (b1 k) (b2 k)).length (a0i (a1g (b1 k) (b2 k)))) (hb:Below wr.heap.size wr w')=>ho.out.next hlt om om om om hf hv hb);have HLG:Hid (a1g (b1 k) (b2 k)=if (b2 k).length<(b1 k).length then b1 k else b2 k):=hid rfl;generalize b1 k=l1 at *;generalize b2 k=l2 at *;obtain⟨n1,hn1⟩:∃n,n=l1.length:=⟨_,rfl⟩
   obtain⟨n2,hn2⟩:∃n,n=l2.length:=⟨_,rfl⟩
   have N1:=hid hn1;have N2:=hid hn2;rw[<-hn1]at q1 B1 HA1;rw[<-hn2]at q2 B2 HA2;clear hn1 hn2;by_cases hsw:n2<n1
   ·have HCL:Hid (n1<=c1):=hid (HA1.out.cap_le N1.out.symm);have HEQ:=hid (fun W (hW:Below wr.heap.size wr W)=>equal_any l2 (l1.take n2) n2 c2 c1 a2 a1 N2.out.symm (by rw[aoy,<-N1.out];omega) om W (((HA2.out.ents_take N2.out.symm (aof _) om).below hW) |> (fun h=>by rw[N2.out,aoK]at h;rw[N2.out];exact h)) ((HA1.out.ents_take N1.out.symm om om).below hW));have HFE:Hid (a0R l1 l2=decide (l2=l1.take n2)):=hid (by rw[N2.out];exact HFL.out (by rw[<-N1.out,<-N2.out];exact hsw));have HLX:Hid (a1g l1 l2=l1):=hid (by rw[HLG.out,if_pos (by rw[<-N1.out,<-N2.out];exact hsw)]);have hcap:n1<=c1:=HCL.out;have i1:(0:Int)<=(n2:Int):=om;have i2:(n2:Int)<=(c1:Int):=om;obtain⟨q,hq⟩:∃q,q=a0R l1 l2:=⟨_,rfl⟩
    rw[<-HFE.out,<-hq]at HEQ;have HQQ:=hid hq;clear hq;cases q with
    |false=>
     go_wp2;go_quiet (fail)
     go_wp2;go_quiet (fail)
     go_wp2_with fail
     refine(HEQ.out _ (a0q (aoi _ _) _)).mono ?_
     rintro e w3 ⟨rfl,hb3⟩;have HB3:=hid ((a0q (aoi wr.heap.size wr) _).trans hb3);have HO3:=hid (ho.out.below' HB3.out);have r0:=heap_cell (j:=0) HO3.out.res rfl;have r1:=heap_cell (j:=1) HO3.out.res rfl;have r2:=heap_cell (j:=2) HO3.out.res rfl;have r3:=heap_cell (j:=3) HO3.out.res rfl;have g0:∀j,w3.frozen? ⟨w.heap.size,j,none⟩=false:=fun j=>by have h9:=HO3.out.res;simp[World.frozen?,h9]
     have HNO:=hid (HJN.out HQQ.out.symm);clear hb3;go_wp2;refine bodyPost_ret (v:=.tuple #[a6n (fun _=>.slice none 0 0),.bool false]) (by simp[results,results65,go_sem,a6n,r0,r1,r2,r3]) rfl ⟨?_,?_⟩
     ·rw[HNO.out]
     exact(((HO3.out.below.setCell (p:=⟨w.heap.size,0,none⟩) (aof _) _).setCell (p:=⟨w.heap.size,1,none⟩) (aof _) _).setCell (p:=⟨w.heap.size,2,none⟩) (aof _) _).setCell (p:=⟨w.heap.size,3,none⟩) (aof _) _
    | true=>
     go_wp2;go_quiet (fail)
     go_wp2;go_quiet (fail)
     go_wp2_with fail
     refine(HEQ.out _ (a0q (aoi _ _) _)).mono ?_
     rintro e w3 ⟨rfl,hb3⟩;have HB3:=hid ((a0q (aoi wr.heap.size wr) _).trans hb3);have HCO:=hid (aca (.slice a1 n1 c1) l1 w3 (HA1.out.keep fun j hj=>HB3.out.block j (HA1.out.lt hj)) (by rw[<-N1.out];omega));clear hb3;go_wp2_with fail
     refine HCO.out.mono ?_;rintro e w4 ⟨v4,rfl,ho4,hb4⟩;have HB4:=hid (below_trans HB3.out hb4);have HN4:=hid (HNXT.out w4 v4 HQQ.out.symm (by rw[HLX.out];exact a2l ho4 HB3.out.size) HB4.out);have HO4:=hid (ho.out.below' HB4.out)
     have x0:∃u,w4.cell? ⟨w.heap.size+1,k,none⟩=some u:=by
      rcases (show k=0\/k=1\/k=2\/k=3 by omega)with rfl|rfl|rfl|rfl<;>exact⟨_,heap_cell HO4.out.cells rfl⟩
     obtain⟨u4,hu4⟩:=x0;have g0:w4.frozen? ⟨w.heap.size+1,k,none⟩=false:=by have h9:=HO4.out.cells;simp[World.frozen?,h9]
     obtain⟨va,vc,rfl⟩:=own_shape ho4;have HSZ4:Hid (w.heap.size+2<=w4.heap.size):=hid (by have:=HB4.out.size;omega);clear ho4 hb4;go_wp2;go_roundw
     case rel=>exact⟨k+1,_,om,by go_num,HN4,by rw[aos];exact HSZ4.out⟩
     case measure=>simp[intOf];omega
   have HCL:Hid (n2<=c2):=hid (HA2.out.cap_le N2.out.symm);have HEQ:=hid (fun W (hW:Below wr.heap.size wr W)=>equal_any l1 (l2.take n1) n1 c1 c2 a1 a2 N1.out.symm (by rw[aoy,<-N2.out];omega) om W (((HA1.out.ents_take N1.out.symm (aof _) om).below hW) |> (fun h=>by rw[N1.out,aoK]at h;rw[N1.out];exact h)) ((HA2.out.ents_take N2.out.symm om om).below hW));have HFE:Hid (a0R l1 l2=decide (l1=l2.take n1)):=hid (by rw[N1.out];exact HFS.out (by rw[<-N1.out,<-N2.out];exact hsw));have HLX:Hid (a1g l1 l2=l2):=hid (by rw[HLG.out,if_neg (by rw[<-N1.out,<-N2.out];exact hsw)]);have hcap:n2<=c2:=HCL.out;have i1:(0:Int)<=(n1:Int):=om;have i2:(n1:Int)<=(c2:Int):=om;obtain⟨q,hq⟩:∃q,q=a0R l1 l2:=⟨_,rfl⟩
   rw[<-HFE.out,<-hq]at HEQ;have HQQ:=hid hq;clear hq;cases q with
   |false=>
    go_wp2;go_quiet (fail)
    go_wp2;go_quiet (fail)
    go_wp2_with fail
    refine(HEQ.out _ (a0q (aoi _ _) _)).mono ?_
    rintro e w3 ⟨rfl,hb3⟩;have HB3:=hid ((a0q (aoi wr.heap.size wr) _).trans hb3);have HO3:=hid (ho.out.below' HB3.out);have r0:=heap_cell (j:=0) HO3.out.res rfl;have r1:=heap_cell (j:=1) HO3.out.res rfl;have r2:=heap_cell (j:=2) HO3.out.res rfl;have r3:=heap_cell (j:=3) HO3.out.res rfl;have g0:∀j,w3.frozen? ⟨w.heap.size,j,none⟩=false:=fun j=>by have h9:=HO3.out.res;simp[World.frozen?,h9]
    have HNO:=hid (HJN.out HQQ.out.symm);clear hb3;go_wp2;refine bodyPost_ret (v:=.tuple #[a6n (fun _=>.slice none 0 0),.bool false]) (by simp[results,results65,go_sem,a6n,r0,r1,r2,r3]) rfl ⟨?_,?_⟩
    ·rw[HNO.out]
    exact(((HO3.out.below.setCell (p:=⟨w.heap.size,0,none⟩) (aof _) _).setCell (p:=⟨w.heap.size,1,none⟩) (aof _) _).setCell (p:=⟨w.heap.size,2,none⟩) (aof _) _).setCell (p:=⟨w.heap.size,3,none⟩) (aof _) _
   | true=>
    go_wp2;go_quiet (fail)
    go_wp2;go_quiet (fail)
    go_wp2_with fail
    refine(HEQ.out _ (a0q (aoi _ _) _)).mono ?_
    rintro e w3 ⟨rfl,hb3⟩;have HB3:=hid ((a0q (aoi wr.heap.size wr) _).trans hb3);have HCO:=hid (aca (.slice a2 n2 c2) l2 w3 (HA2.out.keep fun j hj=>HB3.out.block j (HA2.out.lt hj)) (by rw[<-N2.out];omega));clear hb3;go_wp2_with fail
    refine HCO.out.mono ?_;rintro e w4 ⟨v4,rfl,ho4,hb4⟩;have HB4:=hid (below_trans HB3.out hb4);have HN4:=hid (HNXT.out w4 v4 HQQ.out.symm (by rw[HLX.out];exact a2l ho4 HB3.out.size) HB4.out);have HO4:=hid (ho.out.below' HB4.out)
    have x0:∃u,w4.cell? ⟨w.heap.size+1,k,none⟩=some u:=by
     rcases (show k=0\/k=1\/k=2\/k=3 by omega)with rfl|rfl|rfl|rfl<;>exact⟨_,heap_cell HO4.out.cells rfl⟩
    obtain⟨u4,hu4⟩:=x0;have g0:w4.frozen? ⟨w.heap.size+1,k,none⟩=false:=by have h9:=HO4.out.cells;simp[World.frozen?,h9]
    obtain⟨va,vc,rfl⟩:=own_shape ho4;have HSZ4:Hid (w.heap.size+2<=w4.heap.size):=hid (by have:=HB4.out.size;omega);clear ho4 hb4;go_wp2;go_roundw
    case rel=>exact⟨k+1,_,om,by go_num,HN4,by rw[aos];exact HSZ4.out⟩
    case measure=>simp[intOf];omega
  have e:k=4:=om;subst e;have r0:=heap_cell (j:=0) ho.out.res rfl;have r1:=heap_cell (j:=1) ho.out.res rfl;have r2:=heap_cell (j:=2) ho.out.res rfl;have r3:=heap_cell (j:=3) ho.out.res rfl;have g0:∀j,wr.frozen? ⟨w.heap.size,j,none⟩=false:=fun j=>by have h9:=ho.out.res;simp[World.frozen?,h9]
  obtain⟨a0,d0,f0⟩:=own_shape (ho.out.done 0 om);obtain⟨a1,d1,f1⟩:=own_shape (ho.out.done 1 om);obtain⟨a2,d2,f2⟩:=own_shape (ho.out.done 2 om);obtain⟨a3,d3,f3⟩:=own_shape (ho.out.done 3 om);have y0:=heap_cell (j:=0) ho.out.cells rfl;have y1:=heap_cell (j:=1) ho.out.cells rfl;have y2:=heap_cell (j:=2) ho.out.cells rfl;have y3:=heap_cell (j:=3) ho.out.cells rfl;rw[f0]at y0;rw[f1]at y1;rw[f2]at y2;rw[f3]at y3;have HF:=hid (And.intro f0 (And.intro f1 (And.intro f2 f3)));have HJY:=hid (a9y ho.out.fits);clear f0 f1 f2 f3;go_wp2;refine bodyPost_ret (v:=.tuple #[.agg #[.slice a0 (a1g (b1 0) (b2 0)).length d0,.slice a1 (a1g (b1 1) (b2 1)).length d1,.slice a2 (a1g (b1 2) (b2 2)).length d2,.slice a3 (a1g (b1 3) (b2 3)).length d3],.bool true]) (by simp[results,results65,go_sem,r0,r1,r2,r3]) rfl ⟨?_,?_⟩
  ·rw[HJY.out]
   have hset:∀(v0 v1 v2 v3:Value) (j:Nat),j≠w.heap.size->((((wr.setCell ⟨w.heap.size,0,none⟩ v0).setCell ⟨w.heap.size,1,none⟩ v1).setCell ⟨w.heap.size,2,none⟩ v2).setCell ⟨w.heap.size,3,none⟩ v3).heap[j]? =wr.heap[j]? :=fun v0 v1 v2 v3 j hj=>
    (aok _ _ _ j hj).trans ((aok _ _ _ j hj).trans ((aok _ _ _ j hj).trans (aok _ _ _ j hj)))
   refine⟨us,by unfold a6n;rw[HF.out.1,HF.out.2.1,HF.out.2.2.1,HF.out.2.2.2],fun i hi=>?_,fun i hi g hg=>?_,ho.out.apart⟩
   ·exact a2l (a3r (ho.out.done i hi) fun j hj=>hset _ _ _ _ j om) (aot _)
   have:=((ho.out.done i hi).lt g hg).1;omega
  exact(((ho.out.below.setCell (p:=⟨w.heap.size,0,none⟩) (aof _) _).setCell (p:=⟨w.heap.size,1,none⟩) (aof _) _).setCell (p:=⟨w.heap.size,2,none⟩) (aof _) _).setCell (p:=⟨w.heap.size,3,none⟩) (aof _) _
end Go.Proofs.YtdfkaijeppdhaaaGreatDoor
namespace Go.Proofs.YtdfkaijeppdhaaaGreatDoor
open Lib (hid)
open Proofs.Tryz Go.RowKit Go.Shelf
theorem aiO(P n:Nat)(hn:n<4)(F:List Nat)(b:a00)(line:ByteArray)(hs:line.size<=1000000)(w:World)(h:PostAt w P F n b)(hok:a02 b)(hV:Vars w)(hfree:∀k∈F,¬a1z k):
  Calls prog 24 #[.pointer (some ⟨P,0,none⟩),.string line] w (a6y P n F (doB b n line) w):=by
 cases hc:a08 line with
 |none=>
  rw[show doB b n line=(emp,100,b) by unfold doB;rw[hc]];exact amj P n F b line hs w h hV (by rw[hc];rfl)
 |some c=>
  by_cases hd:c.deed=false
  ·rw[show doB b n line=(emp,100,b) by unfold doB;rw[hc];simp only;rw[if_pos hd]];exact amj P n F b line hs w h hV (by rw[hc];exact hd)
  cases c with
  |put nm tx=>exact aqb P n hn F b line hs w h hok hV hfree _ hc rfl
  |add nm mm=>exact aqb P n hn F b line hs w h hok hV hfree _ hc rfl
  |drop nm=>exact aqb P n hn F b line hs w h hok hV hfree _ hc rfl
  |stock nm=>exact absurd rfl hd
  |share m nms=>exact absurd rfl hd
  |asked k nms ns=>exact absurd rfl hd
theorem PostAt.parts{w:World}{P n:Nat}{F:List Nat}{b:a00}(h:PostAt w P F n b):∃K vs,w.heap[P]? =some (.cells #[.pointer (some ⟨K,0,none⟩),.int .i64 n] 81 (0,0))/\BookIs w K vs b/\F=P::K::a2V (vs 0) (vs 1) (vs 2) (vs 3):=by
 obtain⟨K,G,hP,hB,hF⟩:=h;obtain⟨vs,hvs,rfl⟩:=a52 hB;exact⟨K,vs,hP,hvs,hF⟩
theorem af7(P n:Nat)(F:List Nat)(b:a00)(w:World)(h:PostAt w P F n b):Calls prog 38 #[.pointer (some ⟨P,0,none⟩)] w fun e w'=>e= .returned (.int .i64 n)/\w=w':=by
 obtain⟨K,vs,hP,hvs,hF⟩:=h.parts;have HN:=hid (a0T P K n _ w hP);have p0:=heap_cell (j:=0) hP rfl;have p1:=heap_cell (j:=1) hP rfl;have HPC:=hid hP;clear hP;clear hvs hF h;go_enter func38,ntmps38;go_wp2_with fail
 refine HN.out.mono ?_;rintro e w' ⟨rfl,rfl⟩;go_wp2;go_ret;exact⟨rfl,rfl⟩
theorem agF(P n:Nat)(F:List Nat)(b:a00)(w:World)(h:PostAt w P F n b)(hok:a02 b):Calls prog 23 #[.pointer (some ⟨P,0,none⟩)] w fun e w'=>e= .returned (.int .i64 (a1f b))/\w=w':=by
 obtain⟨K,vs,hP,hvs,hF⟩:=h.parts;have HN:=hid (a0T P K n _ w hP);have p0:=heap_cell (j:=0) hP rfl;have p1:=heap_cell (j:=1) hP rfl;have HPC:=hid hP;clear hP;have HC:=hid (a4V K _ b w hvs.at (fun i hi=>(hok i hi).len));clear hvs hF h hok;go_enter func23,ntmps23;go_wp2_with fail
 refine HN.out.mono ?_;rintro e w' ⟨rfl,rfl⟩;go_wp2_with fail
 refine HC.out.mono ?_;rintro e w' ⟨rfl,rfl⟩;go_wp2;go_ret;exact⟨rfl,rfl⟩
theorem agG(P n:Nat)(F:List Nat)(b:a00)(s0 s1 s2 s3:Int)(seen:Nat->Int)(hs:seen 0=s0/\seen 1=s1/\seen 2=s2/\seen 3=s3)(w:World)(h:PostAt w P F n b)(hok:a02 b):
  Calls prog 32 #[.pointer (some ⟨P,0,none⟩),.agg #[.int .i64 s0,.int .i64 s1,.int .i64 s2,.int .i64 s3]] w (a3t (a2v b seen) w):=by
 obtain⟨K,vs,hP,hvs,hF⟩:=h.parts;have HN:=hid (a0T P K n _ w hP);have p0:=heap_cell (j:=0) hP rfl;have p1:=heap_cell (j:=1) hP rfl;have HPC:=hid hP;clear hP;obtain⟨o3,ho3⟩:∃o3:Obj,o3= .cells #[.int .i64 s0,.int .i64 s1,.int .i64 s2,.int .i64 s3] 34:=⟨_,rfl⟩
 have hb3:Below w.heap.size w (w.alloc o3):=(aoi _ _).alloc (aof _) _
 have HN3:=hid (a0T P K n _ (w.alloc o3) ((hb3.block P (h.lt (by rw[hF];simp))).trans HPC.out));have HC:=hid (fun W (hW:Below w.heap.size w W)=>ac6 K _ b s0 s1 s2 s3 seen hs W (hvs.below hW).at (fun i hi=>(hok i hi).len) hok);have HB3:=hid hb3;have q0:=keep_cell hb3 p0;have z0:=heap_cell (j:=0) (show (w.alloc o3).heap[w.heap.size]? =some (.cells #[.int .i64 s0,.int .i64 s1,.int .i64 s2,.int .i64 s3] 34 (0,0)) by rw[World.alloc_heap_new,ho3]) rfl;have z1:=heap_cell (j:=1) (show (w.alloc o3).heap[w.heap.size]? =some (.cells #[.int .i64 s0,.int .i64 s1,.int .i64 s2,.int .i64 s3] 34 (0,0)) by rw[World.alloc_heap_new,ho3]) rfl;have z2:=heap_cell (j:=2) (show (w.alloc o3).heap[w.heap.size]? =some (.cells #[.int .i64 s0,.int .i64 s1,.int .i64 s2,.int .i64 s3] 34 (0,0)) by rw[World.alloc_heap_new,ho3]) rfl;have z3:=heap_cell (j:=3) (show (w.alloc o3).heap[w.heap.size]? =some (.cells #[.int .i64 s0,.int .i64 s1,.int .i64 s2,.int .i64 s3] 34 (0,0)) by rw[World.alloc_heap_new,ho3]) rfl;have HO3:=hid ho3;clear hvs hF h hok hs hb3 ho3;go_enter func32,ntmps32;go_wp2_with fail
 rw[<-HO3.out];refine HN3.out.mono ?_;rintro e w' ⟨rfl,rfl⟩;go_wp2;go_region_with (go_at_call 63;refine(HC.out _ (a0q HB3.out _)).mono ?_;rintro e w2 ⟨v,rfl,h1,h2,h3⟩;have HX:=hid (And.intro h1 (And.intro h2 h3));clear h1 h2 h3)
 all_goals go_wp2
 all_goals go_ret
 all_goals exact⟨v,rfl,HX.out.1,fun k hk=>by have:=HX.out.2.1 k hk;have:=HB3.out.size;simp at *;omega,(a0q HB3.out _).trans (HX.out.2.2.mono (by have:=HB3.out.size;simp at *))⟩
theorem agH(b:a00):a06 b=a2v b fun _=>0:=rfl
theorem acb(P n:Nat)(F:List Nat)(b:a00)(w:World)(h:PostAt w P F n b)(hok:a02 b):
  Calls prog 25 #[.pointer (some ⟨P,0,none⟩)] w (a3t (a06 b) w):=by
 have HS:=hid (agG P n F b 0 0 0 0 (fun _=>0) ⟨rfl,rfl,rfl,rfl⟩ w h hok);rw[agH];clear h hok;go_enter func25,ntmps25;go_wp2_with fail
 refine HS.out.mono ?_;rintro e w' ⟨v,rfl,h1,h2,h3⟩;go_wp2;go_ret;exact⟨v,rfl,h1,h2,h3⟩
end Go.Proofs.YtdfkaijeppdhaaaGreatDoor
namespace Go.Proofs.YtdfkaijeppdhaaaGreatDoor
open Lib (hid)
open Proofs.Tryz Go.RowKit Go.Shelf
def a0L(b o:a00):Int×a00:=match a3T b o with
 |some c=>(0,c)
 |none=>(102,b)
theorem a5C{b o:a00}(hb:a02 b)(ho:a02 o):a02 (a0L b o).2:=by
 unfold a0L;cases h:a3T b o with
 |none=>exact hb
 |some c=>exact aky hb ho h
def TurnPost(P n:Nat)(F:List Nat)(r:Int×a00)(w:World)(e:Ending)(w':World):Prop:=
 e= .returned (.int .i64 r.1)/\∃F',PostAt w' P F' n r.2/\a2q w F F'/\Off F w w'
theorem aiP(l:List Ent):a0R l l=true:=by
 unfold a0R;rw[Bool.or_eq_true,decide_eq_true_eq];exact .inl (apH _)
theorem af8{b:a00}:∃c,a3T b b=some c/\∀i,i<4->c i=b i:=
 ⟨a4l b b,a9y fun i _=>aiP (b i),fun i _=>aa2 (apH (b i))⟩
theorem NewBook.parts{w:World}{lo:Nat}{us:Nat->Value}{c:a00}(h:NewBook w lo us c):∃a0 d0 a1 d1 a2 d2 a3 d3,us 0= .slice a0 (c 0).length d0/\us 1= .slice a1 (c 1).length d1/\us 2= .slice a2 (c 2).length d2/\us 3= .slice a3 (c 3).length d3:=by
 obtain⟨a0,d0,h0⟩:=own_shape (h.list 0 om);obtain⟨a1,d1,h1⟩:=own_shape (h.list 1 om);obtain⟨a2,d2,h2⟩:=own_shape (h.list 2 om);obtain⟨a3,d3,h3⟩:=own_shape (h.list 3 om);exact⟨a0,d0,a1,d1,a2,d2,a3,d3,h0,h1,h2,h3⟩
theorem akT{X:World}{N:Nat}{a b c d:Value}{t:TypeId}(h:X.heap[N]? =some (.cells #[a,b,c,d] t (0,0)))(v0 v1 v2 v3:Value):
  ((((X.setCell ⟨N,0,none⟩ v0).setCell ⟨N,1,none⟩ v1).setCell ⟨N,2,none⟩ v2).setCell ⟨N,3,none⟩ v3).heap[N]? =some (.cells #[v0,v1,v2,v3] t (0,0)):=by
 have h0:=a0K h 0 v0;simp at h0;have h1:=a0K h0 1 v1;simp at h1;have h2:=a0K h1 2 v2;simp at h2;have h3:=a0K h2 3 v3;simpa using h3
theorem aal{X:World}{N:Nat}(v0 v1 v2 v3:Value){k:Nat}(hk:k≠N):
  ((((X.setCell ⟨N,0,none⟩ v0).setCell ⟨N,1,none⟩ v1).setCell ⟨N,2,none⟩ v2).setCell ⟨N,3,none⟩ v3).heap[k]? =X.heap[k]? :=
 (aok _ _ _ k hk).trans ((aok _ _ _ k hk).trans ((aok _ _ _ k hk).trans (aok _ _ _ k hk)))
theorem NewBook.is{w:World}{lo N:Nat}{us:Nat->Value}{c:a00}(h:NewBook w lo us c)(hN:w.heap[N]? =some (.cells #[us 0,us 1,us 2,us 3] 96 (0,0))):BookIs w N us c:=
 ⟨hN,h.list,h.apart⟩
theorem akU{w W:World}{P K n N lo:Nat}{F:List Nat}{vs us:Nat->Value}{c:a00}(hP:w.heap[P]? =some (.cells #[.pointer (some ⟨K,0,none⟩),.int .i64 n] 81 (0,0)))(hF:F=P::K::a2V (vs 0) (vs 1) (vs 2) (vs 3))
  (hb:Below w.heap.size w W)(hB:BookIs W N us c)(hN:w.heap.size<=N)(hlo:w.heap.size<=lo)(hl:∀i,i<4->∀g,(us i).ownBlock=some g->lo<=g):
  ∃F',PostAt (W.setCell ⟨P,0,none⟩ (.pointer (some ⟨N,0,none⟩))) P F' n c/\a2q w F F'/\Off F w (W.setCell ⟨P,0,none⟩ (.pointer (some ⟨N,0,none⟩))):=by
 have hPlt:P<w.heap.size:=(aog.1 hP).1
 have hPW:=(hb.block P hPlt).trans hP
 have hset:∀k,k≠P->(W.setCell ⟨P,0,none⟩ (.pointer (some ⟨N,0,none⟩))).heap[k]? =W.heap[k]? :=fun k hk=>aok _ _ _ k hk
 have hPx:(W.setCell ⟨P,0,none⟩ (.pointer (some ⟨N,0,none⟩))).heap[P]? =some (.cells #[.pointer (some ⟨N,0,none⟩),.int .i64 n] 81 (0,0)):=by
  obtain⟨hlt,hk⟩:=aog.1 hPW;show (W.heap.modify P _)[P]? =_;rw[aoD (by rw[apm];exact hlt),ap0,hk];simp
 refine⟨P::N::a2V (us 0) (us 1) (us 2) (us 3),⟨N,_,hPx,(hB.keep (hset N om) fun i hi k hk=>hset k (by have:=hl i hi k hk;omega)).at,rfl⟩,fun k hk=>?_,⟨hb.os,hb.tape,hb.output,by rw[aos];exact hb.size,fun k hk hkF=>?_⟩⟩
 ·rcases aov.1 hk with rfl|hk
  ·exact .inl (by rw[hF];simp)
  rcases aov.1 hk with rfl|hk
  ·exact .inr hN
  obtain⟨i,hi,h5⟩:=mem_blks.1 hk;have:=hl i hi k h5;exact .inr om
 exact(hset k (fun e=>hkF (by rw[hF,e];simp))).trans (hb.block k hk)
theorem a73{n N:Nat}{w X:World}(hb:Below n w X)(hN:n<=N)(v0 v1 v2 v3:Value):Below n w ((((X.setCell ⟨N,0,none⟩ v0).setCell ⟨N,1,none⟩ v1).setCell ⟨N,2,none⟩ v2).setCell ⟨N,3,none⟩ v3):=
 (((hb.setCell (p:=⟨N,0,none⟩) hN _).setCell (p:=⟨N,1,none⟩) hN _).setCell (p:=⟨N,2,none⟩) hN _).setCell (p:=⟨N,3,none⟩) hN _
theorem NewBook.keep{w w':World}{lo:Nat}{us:Nat->Value}{c:a00}(h:NewBook w lo us c)(hk:∀i,i<4->∀g,(us i).ownBlock=some g->w'.heap[g]? =w.heap[g]?):NewBook w' lo us c:=
 ⟨fun i hi=>(h.list i hi).keep (hk i hi),h.low,h.apart⟩
theorem aiQ{w2:World}{N:Nat}{t:TypeId}(h:w2.heap[N]? =some (.cells #[.slice none 0 0,.slice none 0 0,.slice none 0 0,.slice none 0 0] t (0,0))):(∀j,j<4->w2.cell? ⟨N,j,none⟩=some (.slice none 0 0))/\∀j,w2.frozen? ⟨N,j,none⟩=false:=by
 refine⟨fun j hj=>?_,fun j=>by simp[World.frozen?,h]⟩;rcases (show j=0\/j=1\/j=2\/j=3 by omega)with rfl|rfl|rfl|rfl<;>exact heap_cell h rfl
theorem adH(P n:Nat)(F:List Nat)(b:a00)(K2:Nat)(vs2:Nat->Value)(b2:a00)(w:World)(h:PostAt w P F n b)(h2:BookIs w K2 vs2 b2)(hok:a02 b)(hok2:a02 b2):
  Calls prog 52 #[.pointer (some ⟨P,0,none⟩),.pointer (some ⟨K2,0,none⟩)] w (TurnPost P n F (a0L b b2) w):=by
 have HP:=hid h;obtain⟨K,vs,hP,hvs,hF⟩:=h.parts;have HJ:=hid (fun W (hW:KB w W)=>aak K K2 vs vs2 b b2 W (hvs.below hW) (h2.below hW) (fun i hi=>(hok i hi).len) (fun i hi=>(hok2 i hi).len));have HPC:=hid hP;have HF:=hid hF;have r0:=heap_cell (j:=0) hP rfl;clear h hvs h2 hok hok2 hF hP;unfold a0L;unfold a9x at HJ;cases hj:a3T b b2 with
 |none=>
  rw[hj]at HJ;simp only at HJ;clear hj;go_enter func52,ntmps52;go_wp2_with fail
  refine(HJ.out _ (KB.refl _)).mono ?_
  rintro e w2 ⟨rfl,hb2⟩;unfold a6n;have HB2:=hid hb2;clear hb2;go_wp2;go_ret;have hb:Below w.heap.size w (w2.alloc (.cells #[.slice none 0 0,.slice none 0 0,.slice none 0 0,.slice none 0 0] 96)):=HB2.out.alloc HB2.out.size _;exact⟨rfl,F,HP.out.below hb,a2e _ _,Off.of_below hb⟩
 | some c=>
  rw[hj]at HJ;simp only at HJ;clear hj;go_enter func52,ntmps52;go_wp2_with fail
  refine(HJ.out _ (KB.refl _)).mono ?_
  rintro e w2 ⟨⟨us,rfl,hnb⟩,hb2⟩;obtain⟨a0,d0,a1,d1,a2,d2,a3,d3,f0,f1,f2,f3⟩:=hnb.parts;unfold a6n;rw[f0,f1,f2,f3];have HU:=hid (And.intro f0 (And.intro f1 (And.intro f2 f3)));have HB2:=hid hb2;have HNB:=hid hnb;clear f0 f1 f2 f3 hb2 hnb;obtain⟨W,hW⟩:∃W,W=w2.alloc (.cells #[.slice a0 (c 0).length d0,.slice a1 (c 1).length d1,.slice a2 (c 2).length d2,.slice a3 (c 3).length d3] 96):=⟨_,rfl⟩
  have hb:Below w.heap.size w W:=by rw[hW];exact HB2.out.alloc HB2.out.size _
  have hNW:W.heap[w2.heap.size]? =some (.cells #[us 0,us 1,us 2,us 3] 96 (0,0)):=by
   rw[hW,HU.out.1,HU.out.2.1,HU.out.2.2.1,HU.out.2.2.2];exact World.alloc_heap_new w2 _
  have hBI:BookIs W w2.heap.size us c:=NewBook.is (HNB.out.keep fun i hi g hg=>by
   have hg2:=(HNB.out.list i hi).lt hg
   rw[hW];exact aop _ _ _ hg2) hNW
  have HE:=hid (akU (us:=us) HPC.out HF.out hb hBI HB2.out.size (aof _) HNB.out.low);have HPW:=hid ((hb.block P (aog.1 HPC.out).1).trans HPC.out);have y0:=heap_cell (j:=0) HPW.out rfl;have yf:W.frozen? ⟨P,0,none⟩=false:=by have h9:=HPW.out;simp[World.frozen?,h9]
  rw[hW]at y0 yf HE;clear hW hb hNW hBI r0 HPW;go_wp2;go_ret;exact⟨rfl,HE.out⟩
theorem acd(P n:Nat)(F:List Nat)(b:a00)(P2 n2:Nat)(F2:List Nat)(b2:a00)(w:World)(h:PostAt w P F n b)(h2:PostAt w P2 F2 n2 b2)(hok:a02 b)(hok2:a02 b2):
  Calls prog 22 #[.pointer (some ⟨P,0,none⟩),.pointer (some ⟨P2,0,none⟩)] w (TurnPost P n F (a0L b b2) w):=by
 obtain⟨K2,vs2,hP2,hvs2,hF2⟩:=h2.parts;obtain⟨K,vs,hP,hvs,hF⟩:=h.parts;have HN:=hid (a0T P K n _ w hP);have HN2:=hid (a0T P2 K2 n2 _ w hP2);have HT:=hid (adH P n F b K2 vs2 b2 w h hvs2 hok hok2);have p0:=heap_cell (j:=0) hP2 rfl;clear h h2 hP hP2 hvs hvs2 hF hF2 hok hok2;go_enter func22,ntmps22;go_wp2_with fail
 refine HN.out.mono ?_;rintro e w' ⟨rfl,rfl⟩;go_wp2_with fail
 refine HN2.out.mono ?_;rintro e w' ⟨rfl,rfl⟩;go_wp2_with fail
 refine HT.out.mono ?_;rintro e w' ⟨rfl,h⟩;go_wp2;go_ret;exact⟨rfl,h⟩
end Go.Proofs.YtdfkaijeppdhaaaGreatDoor
namespace Go.Proofs.YtdfkaijeppdhaaaGreatDoor
open Lib (hid)
open Proofs.Tryz Go.RowKit Go.Shelf
def adI(n:Nat)(b:a00)(w:World)(e:Ending)(w':World):Prop:=
 ∃P' F',e= .returned (.pointer (some ⟨P',0,none⟩))/\PostAt w' P' F' n b/\a2q w [] F'/\Below w.heap.size w w'
theorem ListAt.same{w:World}{v:Value}{l m:List Ent}(h:ListAt w v l)(e:l=m):ListAt w v m:=e▸h
theorem BookIs.same{w:World}{K:Nat}{vs:Nat->Value}{b c:a00}(h:BookIs w K vs b)(e:∀i,i<4->b i=c i):BookIs w K vs c:=⟨h.cells,fun i hi=>(h.list i hi).same (e i hi),h.apart⟩
theorem adJ{w W:World}{n N lo:Nat}{us:Nat->Value}{c b:a00}(hb:Below w.heap.size w W)(hB:BookIs W N us c)(hcb:∀i,i<4->c i=b i)(hN:w.heap.size<=N)(hlo:w.heap.size<=lo)(hl:∀i,i<4->∀g,(us i).ownBlock=some g->lo<=g):
  adI n b w (.returned (.pointer (some ⟨W.heap.size,0,none⟩))) (W.alloc (.cells #[.pointer (some ⟨N,0,none⟩),.int .i64 n] 81)):=by
 have hsz:=hb.size;refine⟨W.heap.size,W.heap.size::N::a2V (us 0) (us 1) (us 2) (us 3),rfl,⟨N,_,World.alloc_heap_new W _,((hB.below ((aoi _ _).alloc (aof _) _)).same hcb).at,rfl⟩,fun k hk=>.inr ?_,hb.alloc hsz _⟩;rcases aov.1 hk with rfl|hk
 ·exact hsz
 rcases aov.1 hk with rfl|hk
 ·exact hN
 obtain⟨i,hi,h5⟩:=mem_blks.1 hk;have:=hl i hi k h5;omega
theorem aiR(P n:Nat)(F:List Nat)(b:a00)(w:World)(h:PostAt w P F n b)(hok:a02 b):
  Calls prog 35 #[.pointer (some ⟨P,0,none⟩)] w (adI n b w):=by
 obtain⟨K,vs,hP,hvs,hF⟩:=h.parts;have HN:=hid (a0T P K n _ w hP);have HJ:=hid (fun W (hW:KB w W)=>aak K K vs vs b b W (hvs.below hW) (hvs.below hW) (fun i hi=>(hok i hi).len) (fun i hi=>(hok i hi).len));have HPC:=hid hP;have r0:∀W,KB w W->W.cell? ⟨P,0,none⟩=some (.pointer (some ⟨K,0,none⟩)):=fun W hW=>keep_cell hW (heap_cell hP rfl);have r1:∀W,KB w W->W.cell? ⟨P,1,none⟩=some (.int .i64 (n:Int)):=fun W hW=>keep_cell hW (heap_cell hP rfl);clear h hvs hok hF hP;unfold a9x at HJ;obtain⟨c,hj,hcb⟩:=af8 (b:=b);rw[hj]at HJ;simp only at HJ;have HCB:=hid hcb;clear hj hcb;go_enter func35,ntmps35;go_wp2_with fail
 refine HN.out.mono ?_;rintro e w' ⟨rfl,rfl⟩;go_wp2
 go_region_held3 (fun W=>KB w W) (first|exact KB.refl _|exact KB.drew (KB.refl _)|assumption|exact KB.drew (by assumption)|(unfold KB at *;repeat (first|assumption|exact aoi _ _|refine Below.setCell ?_ (by first|omega|(simp;done)|(simp;omega)) _|refine Below.drew ?_ |refine Below.alloc ?_ (by first|omega|(simp;done)|(simp;omega)) _))|fail) (first
  |(go_at_call 65;refine(HJ.out _ (by first|exact KB.refl _|exact KB.drew (KB.refl _)|assumption|(unfold KB;exact(aoi _ _).alloc (aof _) _)|(unfold KB;exact((aoi _ _).alloc (aof _) _).drew))).mono ?_;rintro e w2 ⟨⟨us,rfl,hnb⟩,hb2⟩;obtain⟨a0,d0,a1,d1,a2,d2,a3,d3,f0,f1,f2,f3⟩:=hnb.parts;unfold a6n;rw[f0,f1,f2,f3];have HU:=hid (And.intro f0 (And.intro f1 (And.intro f2 f3)));clear f0 f1 f2 f3;have hk2:=KB.call (w:=w) (by first|exact KB.refl _|exact KB.drew (KB.refl _)|assumption|(unfold KB;exact(aoi _ _).alloc (aof _) _)|(unfold KB;exact((aoi _ _).alloc (aof _) _).drew)) hb2;have hsz2:w.heap.size<=w2.heap.size:=hk2.size;first|(have hqq:=(hb2.block w.heap.size oz).trans (World.alloc_heap_new w (.cells #[.slice none 0 0,.slice none 0 0,.slice none 0 0,.slice none 0 0] 96));have hq:=aiQ hqq;have q0:=hq.1 0 om;have q1:=hq.1 1 om;have q2:=hq.1 2 om;have q3:=hq.1 3 om;have qf:=hq.2)|skip)
  |fail)
 ·have hbW:KB w (w2.alloc (.cells #[.slice a0 (c 0).length d0,.slice a1 (c 1).length d1,.slice a2 (c 2).length d2,.slice a3 (c 3).length d3] 96)):=KB.alloc hk2 _;have y1:=r1 _ hbW;have HE:=hid (adJ (n:=n) (us:=us) hbW (NewBook.is (c:=c) (hnb.keep fun i hi g hg=>aop _ _ _ ((hnb.list i hi).lt hg)) (by rw[HU.out.1,HU.out.2.1,HU.out.2.2.1,HU.out.2.2.2];exact World.alloc_heap_new w2 _)) HCB.out hsz2 (aof _) hnb.low);rw[aoq]at HE;clear hbW hnb r0 r1;go_wp2;go_ret;exact HE.out
 have hbW:KB w ((((w2.setCell ⟨w.heap.size,0,none⟩ (.slice a0 (c 0).length d0)).setCell ⟨w.heap.size,1,none⟩ (.slice a1 (c 1).length d1)).setCell ⟨w.heap.size,2,none⟩ (.slice a2 (c 2).length d2)).setCell ⟨w.heap.size,3,none⟩ (.slice a3 (c 3).length d3)):=a73 hk2 (aof _) _ _ _ _;have y1:=r1 _ hbW;have HE:=hid (adJ (n:=n) (us:=us) hbW (NewBook.is (c:=c) (hnb.keep fun i hi g hg=>aal _ _ _ _ (by have:=hnb.low i hi g hg;simp at this;omega)) (by rw[HU.out.1,HU.out.2.1,HU.out.2.2.1,HU.out.2.2.2];exact akT hqq _ _ _ _)) HCB.out (aof _) (aof _) (fun i hi g hg=>by have:=hnb.low i hi g hg;simp at this;omega));rw[aos,aos,aos,aos]at HE;clear hbW hnb r0 r1 hqq hq q0 q1 q2 q3 qf;go_wp2;go_ret;exact HE.out
def a74(b:a00)(w:World)(e:Ending)(w':World):Prop:=
 e= .returned (.agg #[.int .i64 ((b 0).length:Int),.int .i64 ((b 1).length:Int),.int .i64 ((b 2).length:Int),.int .i64 ((b 3).length:Int)])/\Below w.heap.size w w'
def a87(b:a00)(k j:Nat):Value:=.int .i64 (if j<k then ((b j).length:Int)else 0)
structure SeenAt(b:a00)(w:World)(k:Nat)(wr:World):Prop where
 cells:wr.heap[w.heap.size+1]? =some (.cells #[a87 b k 0,a87 b k 1,a87 b k 2,a87 b k 3] 34 (0,0))
 res:wr.heap[w.heap.size]? =some (.cells #[.int .i64 0,.int .i64 0,.int .i64 0,.int .i64 0] 34 (0,0))
 below:Below w.heap.size w wr
theorem SeenAt.next{b:a00}{w wr:World}{k:Nat}(h:SeenAt b w k wr)(hk:k<4):SeenAt b w (k+1) (wr.setCell ⟨w.heap.size+1,k,none⟩ (.int .i64 ((b k).length:Int))):=by
 refine⟨?_,(aok _ _ _ _ oz).trans h.res,h.below.setCell (p:=⟨w.heap.size+1,k,none⟩) oz _⟩;rw[a0K h.cells];unfold a87;rcases (show k=0\/k=1\/k=2\/k=3 by omega)with rfl|rfl|rfl|rfl<;>simp
theorem aiS(P n:Nat)(F:List Nat)(b:a00)(w:World)(h:PostAt w P F n b)(hok:a02 b):
  Calls prog 21 #[.pointer (some ⟨P,0,none⟩)] w (a74 b w):=by
 obtain⟨K,vs,hP,hvs,hF⟩:=h.parts;have HS:=hid hvs;have HPC:=hid hP;have HOK:=hid (fun i hi=>(hok i hi).len);clear h hP hvs hF hok;obtain⟨w2,hw2⟩:∃w2,w2=(w.alloc (.cells #[.int .i64 0,.int .i64 0,.int .i64 0,.int .i64 0] 34)).alloc (.cells #[.int .i64 0,.int .i64 0,.int .i64 0,.int .i64 0] 34):=⟨_,rfl⟩
 have H2:Hid (SeenAt b w 0 w2):=hid (by
  refine⟨?_,?_,by rw[hw2];exact((aoi _ w).alloc (aof _) _).alloc oz _⟩
  ·have:=World.alloc_heap_new (w.alloc (.cells #[.int .i64 0,.int .i64 0,.int .i64 0,.int .i64 0] 34)) (.cells #[.int .i64 0,.int .i64 0,.int .i64 0,.int .i64 0] 34);rw[aoq]at this;rw[hw2];exact this
  rw[hw2];exact(aop _ _ _ oz).trans (World.alloc_heap_new w _))
 have HW2:=hid hw2;clear hw2;go_enter func21,ntmps21;go_wp2_with fail
 rw[<-HW2.out];go_loopw [5] (fun i wr=>∃k:Nat,k<=4/\i= .int .i64 k/\Hid (SeenAt b w k wr)) (fun i _=>4-(intOf i).toNat)
 case atStart=>exact⟨0,aot _,rfl,H2⟩
 case round=>
  obtain⟨k,hk,rfl,ho⟩:=hrel;by_cases hlt:k<4
  ·have hlt2:(k:Int)<4:=om;have hge:(0:Int)<=(k:Int):=om;have S1:=hid (HS.out.below ho.out.below);have P1:=hid ((ho.out.below.block P (aog.1 HPC.out).1).trans HPC.out);have HN:=hid (a0T P K n _ wr P1.out);obtain⟨a1,c1,e1⟩:=S1.out.slice hlt;have q1:=S1.out.cell hlt;rw[e1]at q1;have hlen:=HOK.out k hlt;have HNX:=hid (ho.out.next hlt);have p0:=heap_cell (j:=0) P1.out rfl
   have x0:∃u,wr.cell? ⟨w.heap.size+1,k,none⟩=some u:=by
    rcases (show k=0\/k=1\/k=2\/k=3 by omega)with rfl|rfl|rfl|rfl<;>exact⟨_,heap_cell ho.out.cells rfl⟩
   obtain⟨u4,hu4⟩:=x0;have g0:wr.frozen? ⟨w.heap.size+1,k,none⟩=false:=by have h9:=ho.out.cells;simp[World.frozen?,h9]
   clear e1;generalize (b k).length=bl at *
   go_wp2_with fail
   refine HN.out.mono ?_;rintro e w3 ⟨rfl,rfl⟩;go_wp2;go_roundw
   case rel=>exact⟨k+1,om,by go_num,HNX⟩
   case measure=>simp[intOf];omega
  have e:k=4:=om;subst e;have r0:=heap_cell (j:=0) ho.out.res rfl;have r1:=heap_cell (j:=1) ho.out.res rfl;have r2:=heap_cell (j:=2) ho.out.res rfl;have r3:=heap_cell (j:=3) ho.out.res rfl;have g0:∀j,wr.frozen? ⟨w.heap.size,j,none⟩=false:=fun j=>by have h9:=ho.out.res;simp[World.frozen?,h9]
  have y0:wr.cell? ⟨w.heap.size+1,0,none⟩=some (.int .i64 ((b 0).length:Int)):=heap_cell (j:=0) ho.out.cells rfl;have y1:wr.cell? ⟨w.heap.size+1,1,none⟩=some (.int .i64 ((b 1).length:Int)):=heap_cell (j:=1) ho.out.cells rfl;have y2:wr.cell? ⟨w.heap.size+1,2,none⟩=some (.int .i64 ((b 2).length:Int)):=heap_cell (j:=2) ho.out.cells rfl;have y3:wr.cell? ⟨w.heap.size+1,3,none⟩=some (.int .i64 ((b 3).length:Int)):=heap_cell (j:=3) ho.out.cells rfl;go_wp2;refine bodyPost_ret (v:=.agg #[.int .i64 ((b 0).length:Int),.int .i64 ((b 1).length:Int),.int .i64 ((b 2).length:Int),.int .i64 ((b 3).length:Int)]) (by simp[results,results21,go_sem,r0,r1,r2,r3]) rfl ⟨rfl,?_⟩;exact a73 ho.out.below (aof _) _ _ _ _
end Go.Proofs.YtdfkaijeppdhaaaGreatDoor
namespace Go.Proofs.YtdfkaijeppdhaaaGreatDoor
open Lib (hid)
open Proofs.Tryz Go.RowKit Go.Shelf
def aiT:Go.Shelf.Ren:=⟨fun|167=>92|240=>120|276=>153|n=>n,fun|31=>22|9=>9|3=>3|4=>4|0=>0|20=>20|72=>151|76=>154|70=>149|37=>65|75=>153|127=>186|164=>217|5=>5|80=>55|n=>n,fun|n=>n⟩
theorem amy:Go.Proofs.Lays.n167 prog aiT:={
 mixed:=lays156.mixed
 f167:=func92.trans oq
 f240:=func120.trans oq
 f276:=func153.trans oq
 t0:=lays156.t0
 a0:=lays156.a0
 z0:=lays156.z0
 v0:=lays156.v0
 t4:=lays156.t4
 a4:=lays156.a4
 z4:=lays156.z4
 v4:=lays156.v4
 t5:=underlying5
 a5:=isAgg5
 z5:=sizeOf5
 v5:=zeroValue5
 t9:=lays156.t9
 a9:=lays156.a9
 z9:=lays156.z9
 v9:=lays156.v9
 t20:=lays156.t20
 a20:=lays156.a20
 z20:=lays156.z20
 v20:=lays156.v20
 t37:=lays156.t37
 a37:=lays156.a37
 z37:=lays156.z37
 v37:=lays156.v37
 t70:=lays156.t70
 a70:=lays156.a70
 z70:=lays156.z70
 v70:=lays156.v70
 t72:=lays156.t72
 a72:=lays156.a72
 z72:=lays156.z72
 v72:=lays156.v72
 t75:=lays156.t75
 a75:=lays156.a75
 z75:=lays156.z75
 v75:=lays156.v75
 t164:=lays156.t164
 a164:=lays156.a164
 z164:=lays156.z164
 v164:=lays156.v164}
theorem akV:Builder.Extra prog aiT:={
 sizeBuilder:=ot
 liesBuilder:=ot
 t5:=underlying5
 a5:=isAgg5
 z5:=sizeOf5
 v5:=zeroValue5
 infoByte:=ot
 cellsByte:=ot
 sizeByte:=ot
 neB5:=by decide}
def Bld(b:Nat)(l:List UInt8)(w:World):Prop:=Lib.IsBuilderF 151 5 b b (Lib.byteCells l) w
theorem Bld.lt{b:Nat}{l:List UInt8}{w:World}(h:Bld b l w):b<w.heap.size:=by rcases h with h|h<;>exact h.lt
theorem a5D(l m:List UInt8):Lib.byteCells (l++m)=Lib.byteCells l++Lib.byteCells m:=by simp[Lib.byteCells]
theorem Bld.new(w:World):Bld w.heap.size [] (w.alloc (.cells #[.pointer none,.slice none 0 0] 151)):=Lib.IsBuilderF.of (Lib.fresh_isBuilder 151 5 w)
theorem Bld.alloc{b:Nat}{l:List UInt8}{w:World}(h:Bld b l w)(o:Obj):Bld b l (w.alloc o):=by
 rcases h with h|h
 ·exact .inl (h.alloc o)
 exact .inr (h.alloc o)
theorem a63{T e:TypeId}{B b:Nat}{p:Value}{bs:List Value}{w w':World}(h:Lib.BuilderAtF T e B b p bs w)(hb:Below w.heap.size w w'):Lib.BuilderAtF T e B b p bs w':=by
 have hlt:=h.lt;obtain⟨hB,v,hbk,hown,hne⟩:=h;refine⟨hB,v,(hb.block b hlt).trans hbk,hown.kept (row:=none) ⟨hb.os,hb.tape,hb.output,hb.size,fun k hk _=>hb.block k hk⟩ (by cases v.ownBlock<;>simp),hne⟩
theorem Bld.below{b:Nat}{l:List UInt8}{w w':World}(h:Bld b l w)(hb:Below w.heap.size w w'):Bld b l w':=by
 rcases h with h|h
 ·exact .inl (a63 h hb)
 exact .inr (a63 h hb)
structure Wrote(b:Nat)(l:List UInt8)(w w':World):Prop where
 bld:Bld b l w'
 below:Below b w w'
 kept:Lib.OthersKept 5 (some b) w w'
theorem aiU(b:Nat)(l:List UInt8)(s:ByteArray)(w:World)(h:Bld b l w)(hl:l.length+s.size<=1000000):
  Calls prog 91 #[.pointer (some ⟨b,0,none⟩),.string s] w fun e w'=>e= .returned (.tuple #[.int .i64 s.size,.nilIface])/\Wrote b (l++s.data.toList) w w':=by
 refine(Any.Builder_WriteString_k {lays156 with} Tryz.Builder_Extra_156 b b (Lib.byteCells l) s w h (by rw[Lib.byteCells_length];omega) (apG h.lt)).mono ?_
 rintro e w' ⟨rfl,h1,h2,h3⟩;exact⟨rfl,.inr (by rw[a5D];exact h1),h2,h3⟩
theorem aiV(b:Nat)(l:List UInt8)(c:UInt8)(w:World)(h:Bld b l w)(hl:l.length+1<=1000000):
  Calls prog 92 #[.pointer (some ⟨b,0,none⟩),.int .u8 (c.toNat:Int)] w fun e w'=>e= .returned .nilIface/\Wrote b (l++[c]) w w':=by
 refine(Any.Builder_WriteByte_k amy akV b b (Lib.byteCells l) (c.toNat:Int) w h (by rw[Lib.byteCells_length];omega) (apG h.lt)).mono ?_
 rintro e w' ⟨rfl,h1,h2,h3⟩;exact⟨rfl,.inr (by rw[a5D];exact h1),h2,h3⟩
theorem aiW(b:Nat)(l:List UInt8)(w:World)(h:Bld b l w):
  Calls prog 93 #[.pointer (some ⟨b,0,none⟩)] w fun e w'=>e= .returned (.string ⟨l.toArray⟩)/\Below b w w':=by
 refine(Any.Builder_String_any_f lays169 Tryz.Builder_Extra_169 b b l w h (apG h.lt)).mono ?_
 rintro e w' ⟨rfl,_,h2⟩;exact⟨rfl,h2⟩
end Go.Proofs.YtdfkaijeppdhaaaGreatDoor
namespace Go.Proofs.YtdfkaijeppdhaaaGreatDoor
open Lib (hid)
open Proofs.Tryz Go.RowKit Go.Shelf
def a78(e:Ent):List Int:=[a07 e,a0r e,a0a e]
def a2Z(e:Ent)(j:Nat):List UInt8:=((a78 e).take j).flatMap fun n=>Lib.itoa n++[32]
theorem aam(e:Ent){j:Nat}(h:j<3):a2Z e (j+1)=a2Z e j++(Lib.itoa ((a78 e).getD j 0)++[32]):=by
 unfold a2Z a78;rcases (show j=0\/j=1\/j=2 by omega)with rfl|rfl|rfl<;>simp
theorem aan(e:Ent):a3G e=a2Z e 3++((a0b e).data.toList++[10]):=by
 unfold a3G a2Z a78;simp
theorem aao{l:List Ent}{k:Nat}(h:k<l.length):a0Q (l.take (k+1))=a0Q (l.take k)++a3G (l.getD k noE):=by
 unfold a0Q;rw[List.take_add_one,List.flatMap_append,aoj h,aoh,aoj h];simp
theorem a79{n:Int}(h0:0<=n)(h1:n<=1000000):(Lib.itoa n).length<=11:=itoa_len om om
theorem aap{e:Ent}(h:(0<=a07 e/\a07 e<=3)/\(1<=a0r e/\a0r e<=60)/\(1<=a0a e/\a0a e<=1000000)){j:Nat}(hj:j<3):0<=(a78 e).getD j 0/\(a78 e).getD j 0<=1000000:=by
 unfold a78;rcases (show j=0\/j=1\/j=2 by omega)with rfl|rfl|rfl<;>simp<;>omega
theorem a64{e:Ent}(h:(0<=a07 e/\a07 e<=3)/\(1<=a0r e/\a0r e<=60)/\(1<=a0a e/\a0a e<=1000000)):∀j,j<=3->(a2Z e j).length<=12 * j
 |0,_=>by simp[a2Z]
 |j+1,hj=>by
  have h1:=a64 h j om;have h2:=aap h (j:=j) om;have h3:=a79 h2.1 h2.2;rw[aam e om];simp only[aol,apu];omega
theorem a88{l:List Ent}(h:∀e∈l,(a3G e).length<=200):(a0Q l).length<=200 * l.length:=by
 induction l with
 |nil=>simp[a0Q]
 |cons e l ih=>
  have h1:=ih fun x hx=>h x (by simp[hx]);have h2:=h e oz;show (a3G e++a0Q l).length<=_
  rw[aol,aom];omega
theorem a5m{e:Ent}(h:a3E (a0b e)=true):(a0b e).data.toList.length<=60:=by
 rw[a1I,a1d,a05]at h;exact h.1
theorem a6o{e:Ent}(h:(0<=a07 e/\a07 e<=3)/\(1<=a0r e/\a0r e<=60)/\(1<=a0a e/\a0a e<=1000000))(hl:a3E (a0b e)=true):(a3G e).length<=200:=by
 have h1:=a64 h 3 om;have h2:=a5m hl;rw[aan,aol,aol,apu];omega
theorem a4z{b k:Nat}{w w':World}{cs:Array Value}{t:TypeId}{fr:Nat×Nat}(h:Lib.OthersKept 5 (some b) w w')(hk:w.heap[k]? =some (.cells cs t fr))(hb:k≠b)(ht:t≠5):w'.heap[k]? =some (.cells cs t fr):=
 h k _ hk (fun e=>hb (by injection e)) (fun c fz e=>ht (by injection e))
theorem ad2{b:Nat}{w w':World}(h:Below w.heap.size w w'):Lib.OthersKept 5 (some b) w w':=fun k _ hk _ _=>(h.block k (aog.1 hk).1).trans hk
theorem ListAt.cellsK{w:World}{v:Value}{l:List Ent}(h:ListAt w v l)(h0:0<l.length):∃g cap cur,v= .slice (some ⟨g,0,none⟩) l.length cap/\w.heap[g]? =some (.cells cur 43 (0,0))/\
  ∀W:World,W.heap[g]? =some (.cells cur 43 (0,0))->ListAt W v l:=by
 rcases h.2 with⟨_,h1⟩|⟨g,cap,cur,rfl,h2,h3,h4⟩
 ·omega
 exact⟨g,cap,cur,rfl,h3,fun W hW=>⟨h.1,.inr ⟨g,cap,cur,rfl,h2,hW,h4⟩⟩⟩
theorem Wrote.trans{b:Nat}{l l':List UInt8}{a c d:World}(h:Wrote b l a c)(k:Wrote b l' c d):Wrote b l' a d:=⟨k.bld,h.below.trans k.below,h.kept.trans k.kept⟩
theorem Wrote.more{b:Nat}{l:List UInt8}{a c d:World}(h:Wrote b l a c)(k:Below c.heap.size c d):Wrote b l a d:=⟨h.bld.below k,h.below.trans (k.mono (apG h.bld.lt)),h.kept.trans (ad2 k)⟩
theorem Wrote.refl{b:Nat}{l:List UInt8}{w:World}(h:Bld b l w):Wrote b l w w:=⟨h,aoi _ _,Lib.OthersKept.refl _ _ _⟩
theorem Wrote.same{b:Nat}{l l':List UInt8}{a c:World}(h:Wrote b l a c)(e:l=l'):Wrote b l' a c:=e▸h
theorem text_any(K:Nat)(F:List Nat)(b:a00)(w:World)(h:BookAt w K F b)(hok:a02 b)(hV:Vars w):
  Calls prog 62 #[.pointer (some ⟨K,0,none⟩)] w fun e w'=>e= .returned (.string (a0z b))/\Below w.heap.size w w':=by
 have hb1:Below w.heap.size w (w.alloc (.cells #[.pointer none,.slice none 0 0] 151)):=(aoi _ _).alloc (aof _) _
 have HA:=hid (a4f K F b _ (h.keep (w':=w.alloc (.cells #[.pointer none,.slice none 0 0] 151)) fun k hk=>hb1.block k (by
  rcases hk with rfl|hk
  ·obtain⟨_,_,_,_,hK,_⟩:=h;exact(aog.1 hK).1
  exact h.lt hk)) hok)
 have HB1:=hid hb1;have HV:=hid hV;have HBD:=hid (fun e (he:e∈a06 b)=>a0y hok he);have HT:Hid (a0z b=⟨(a0Q (a06 b)).toArray⟩):=hid rfl
 have hlen:(a06 b).length<=240:=by
  rw[a1j];unfold lenB;have h0:=(hok 0 om).len
  have h1:=(hok 1 om).len
  have h2:=(hok 2 om).len
  have h3:=(hok 3 om).len
  omega
 clear h hok hV hb1;generalize a06 b=l at *;rw[HT.out];clear HT;go_enter func62,ntmps62;go_wp2_with fail
 refine HA.out.mono ?_;rintro e w1 ⟨v,rfl,hl1,hnew,hb1⟩;have HB2:Hid (Below w.heap.size w w1):=hid (HB1.out.trans (hb1.mono oz));have HBL:Hid (Bld w.heap.size [] w1):=hid ((Bld.new w).below hb1);have hsz1:w.heap.size+1<=w1.heap.size:=by have:=hb1.size;simpa using this
 clear hb1;by_cases h0:0<l.length
 ·obtain⟨g,cap,cur,rfl,hg,hcc⟩:=hl1.cellsK h0;have hgb:g≠w.heap.size:=by have:=hnew g rfl;simp at this;omega
  have HG:=hid hg;have HC:=hid (fun W hW=>(hcc W hW).ents om);obtain⟨n,hn⟩:∃n,n=l.length:=⟨_,rfl⟩
  have HN:=hid hn;rw[<-hn]at hlen h0⊢;clear hn hl1 hnew hg hcc;go_wp2_with fail
  go_loopw [11] (fun i wr=>∃k:Nat,k<=n/\i= .int .i64 k/\Hid (Wrote w.heap.size (a0Q (l.take k)) w1 wr)) (fun i _=>n-(intOf i).toNat)
  case atStart=>exact⟨0,aot _,rfl,hid ⟨HBL.out,aoi _ _,Lib.OthersKept.refl _ _ _⟩⟩
  case round=>
   obtain⟨k,hk,rfl,hw⟩:=hrel;obtain⟨wo,hwo⟩:∃wo,wo=wr:=⟨_,rfl⟩
   subst hwo;by_cases hlt:k<n
   ·have hgr:=a4z hw.out.kept HG.out hgb ox;obtain⟨bk,off,cap',hv,hcs⟩:=(HC.out wo hgr).cells (by rw[<-HN.out];exact h0)
    simp only[Value.slice.injEq,Option.some.injEq,Addr.mk.injEq]at hv;obtain⟨⟨rfl,rfl,_⟩,_,rfl⟩:=hv;have hkl:k<l.length:=by rw[<-HN.out];exact hlt
    have hcs:=hcs k hkl;have HBE:=hid (HBD.out _ (getD_mem' (l:=l) (i:=k) hkl));have HTK:=hid (aao hkl)
    have HTL:Hid ((a0Q (l.take k)).length<=48000):=hid (by
     have:=a88 (l:=l.take k) fun e he=>a6o ⟨(HBD.out e (ap2 he)).1,(HBD.out e (ap2 he)).2.1,(HBD.out e (ap2 he)).2.2.1⟩ (HBD.out e (ap2 he)).2.2.2
     rw[aoy]at this;omega)
    rw[show ((0,0,0,⟨#[]⟩):Ent)=noE from rfl]at hcs;simp only[ap5]at hcs;generalize l.getD k noE=en at *;obtain⟨d0,d1,d2,d3⟩:=hcs;have hwz:w.heap.size+1<=wo.heap.size:=by have:=hw.out.bld.lt;omega
    obtain⟨w5,hw5⟩:∃w5,w5=(wo.alloc (.cells #[.int .i64 (a07 en),.int .i64 (a0r en),.int .i64 (a0a en),.string (a0b en)] 43)).alloc (.cells #[.int .i64 (a07 en),.int .i64 (a0r en),.int .i64 (a0a en)] 3):=⟨_,rfl⟩
    have hb5:Below wo.heap.size wo w5:=by rw[hw5];exact((aoi _ _).alloc (aof _) _).alloc oz _
    have HW1:=hid (hw.out.more hb5)
    have HE5:Hid (w5.heap[wo.heap.size]? =some (.cells #[.int .i64 (a07 en),.int .i64 (a0r en),.int .i64 (a0a en),.string (a0b en)] 43 (0,0))):=hid (by
     rw[hw5];exact(aop _ _ _ oz).trans (World.alloc_heap_new wo _))
    have HS5:Hid (w5.heap[wo.heap.size+1]? =some (.cells #[.int .i64 (a07 en),.int .i64 (a0r en),.int .i64 (a0a en)] 3 (0,0))):=hid (by
     have:=World.alloc_heap_new (wo.alloc (.cells #[.int .i64 (a07 en),.int .i64 (a0r en),.int .i64 (a0a en),.string (a0b en)] 43)) (.cells #[.int .i64 (a07 en),.int .i64 (a0r en),.int .i64 (a0a en)] 3);rw[aoq]at this;rw[hw5];exact this)
    have HW5:=hid hw5;have HWR:=hid (Wrote.refl HW1.out.bld);clear hw5 hb5 hgr;go_wp2_with fail
    rw[<-HW5.out];go_loopw [23] (fun i wr=>∃j:Nat,j<=3/\i= .int .i64 j/\Hid (Wrote w.heap.size (a0Q (l.take k)++a2Z en j) w5 wr)) (fun i _=>3-(intOf i).toNat)
    case atStart=>exact⟨0,om,rfl,hid (HWR.out.same (by simp[a2Z]))⟩
    case round=>
     obtain⟨j,hj,rfl,hwj⟩:=hrel;by_cases hlj:j<3
     ·have HSJ:=hid (a4z hwj.out.kept HS5.out om ox)
      have hcj:wr.cell? ⟨wo.heap.size+1,j,none⟩=some (.int .i64 ((a78 en).getD j 0)):=by
       rcases (show j=0\/j=1\/j=2 by omega)with rfl|rfl|rfl<;>exact heap_cell HSJ.out rfl
      have hnb:=aap ⟨HBE.out.1,HBE.out.2.1,HBE.out.2.2.1⟩ hlj;have HNX:=hid (aam en hlj);have hnl:=a64 ⟨HBE.out.1,HBE.out.2.1,HBE.out.2.2.1⟩ j om;have hil:=a79 hnb.1 hnb.2;generalize (a78 en).getD j 0=x at *
      have HVJ:=hid (HV.out.below (HB2.out.trans (HW1.out.below.trans hwj.out.below)));have HI:=hid (itoa_any x om om wr HVJ.out);have j1:(0:Int)<=(j:Int):=om;have j2:(j:Int)<3:=om
      have HWS:=hid (fun w6 (h6:Below wr.heap.size wr w6)=>aiU w.heap.size (a0Q (l.take k)++a2Z en j) (itoaB x) w6 (hwj.out.more h6).bld (by
       have:=HTL.out;rw[aol,a05,show (itoaB x).data.toList=Lib.itoa x from rfl];omega))
      have HWB:Hid (∀w7,Bld w.heap.size (a0Q (l.take k)++a2Z en j++(itoaB x).data.toList) w7->Calls prog 92 #[.pointer (some ⟨w.heap.size,0,none⟩),.int .u8 32] w7 fun e w'=>e= .returned .nilIface/\Wrote w.heap.size (a0Q (l.take k)++a2Z en j++(itoaB x).data.toList++[32]) w7 w'):=hid (fun w7 h7=>aiV w.heap.size _ 32 w7 h7 (by
       have:=HTL.out;rw[aol,aol,show (itoaB x).data.toList=Lib.itoa x from rfl];omega))
      clear hnl hil;go_wp2_with fail
      refine HI.out.mono ?_;rintro e w6 ⟨rfl,h6⟩;have H6:=hid h6;clear h6;go_wp2_with fail
      refine(HWS.out _ H6.out).mono ?_
      rintro e w7 ⟨rfl,hw7⟩;have H7:=hid hw7;clear hw7;go_wp2_with fail
      refine(HWB.out _ H7.out.bld).mono ?_
      rintro e w8 ⟨rfl,hw8⟩;have H8:=hid (((hwj.out.more H6.out).trans H7.out).trans hw8);clear hw8;go_wp2;go_roundw
      case rel=>exact⟨j+1,om,by go_num,hid (H8.out.same (by rw[HNX.out];simp[itoaB]))⟩
      case measure=>simp[intOf];omega
     have e:j=3:=om;subst e;have HEJ:=hid (a4z hwj.out.kept HE5.out om ox);have q3:=heap_cell (j:=3) HEJ.out rfl;have hnl:=a64 ⟨HBE.out.1,HBE.out.2.1,HBE.out.2.2.1⟩ 3 om;have hll:=a5m HBE.out.2.2.2
     have HWS:=hid (aiU w.heap.size (a0Q (l.take k)++a2Z en 3) (a0b en) wr hwj.out.bld (by
      have:=HTL.out;rw[aol,a05];omega))
     have HWB:Hid (∀w7,Bld w.heap.size (a0Q (l.take k)++a2Z en 3++(a0b en).data.toList) w7->Calls prog 92 #[.pointer (some ⟨w.heap.size,0,none⟩),.int .u8 10] w7 fun e w'=>e= .returned .nilIface/\Wrote w.heap.size (a0Q (l.take k)++a2Z en 3++(a0b en).data.toList++[10]) w7 w'):=hid (fun w7 h7=>aiV w.heap.size _ 10 w7 h7 (by
      have:=HTL.out;rw[aol,aol];omega))
     clear hnl hll;go_wp2_with fail
     refine HWS.out.mono ?_;rintro e w7 ⟨rfl,hw7⟩;have H7:=hid hw7;clear hw7;go_wp2_with fail
     refine(HWB.out _ H7.out.bld).mono ?_
     rintro e w8 ⟨rfl,hw8⟩;have H8:=hid ((HW1.out.trans hwj.out).trans (H7.out.trans hw8));clear hw8;go_wp2;go_roundw
     case rel=>exact⟨k+1,om,by go_num,hid (H8.out.same (by rw[HTK.out,aan];simp))⟩
     case measure=>simp[intOf];omega
   have e:k=n:=om;subst e;have HS:=hid (aiW w.heap.size _ _ hw.out.bld);have HTT:Hid (a0Q (l.take k)=a0Q l):=hid (by rw[HN.out,aoK]);have HBF:=hid (HB2.out.trans hw.out.below);rw[HTT.out]at HS;go_wp2_with fail
   refine HS.out.mono ?_;rintro e w5 ⟨rfl,h5⟩;go_wp2;go_ret;exact⟨rfl,HBF.out.trans h5⟩
 have hz:l=[]:=aoz.1 om;subst hz;obtain⟨a0,c0,rfl⟩:=own_shape hl1;have HS:=hid (aiW w.heap.size _ _ HBL.out);clear hl1 hnew;simp only[aow]at *;go_wp2_with fail
 go_loopw [11] (fun i wr=>i= .int .i64 0/\wr=w1) (fun i _=>0)
 case atStart=>exact⟨rfl,rfl⟩
 case round=>
  obtain⟨rfl,rfl⟩:=hrel;go_wp2_with fail
  refine HS.out.mono ?_;rintro e w5 ⟨rfl,h5⟩;go_wp2;go_ret;exact⟨rfl,HB2.out.trans h5⟩
end Go.Proofs.YtdfkaijeppdhaaaGreatDoor
namespace Go.Proofs.YtdfkaijeppdhaaaGreatDoor
open Lib (hid)
open Proofs.Tryz Go.RowKit Go.Shelf
theorem a54(a b:ByteArray):(a.toList==b.toList)=decide (a=b):=by
 by_cases h:a=b
 ·subst h;simp
 rw[ba_lne h,decide_eq_false h]
def amz(s:ByteArray)(w:World)(e:Ending)(w':World):Prop:=e= .returned (.string s)/\Below w.heap.size w w'
def a4A(q:Bool)(w:World)(e:Ending)(w':World):Prop:=e= .returned (.bool q)/\Below w.heap.size w w'
theorem aiX(P n:Nat)(F:List Nat)(b:a00)(P2 n2:Nat)(F2:List Nat)(b2:a00)(w:World)(h:PostAt w P F n b)(h2:PostAt w P2 F2 n2 b2)(hok:a02 b)(hok2:a02 b2)(hV:Vars w):
  Calls prog 37 #[.pointer (some ⟨P,0,none⟩),.pointer (some ⟨P2,0,none⟩)] w (a4A (decide (a0z b=a0z b2)) w):=by
 obtain⟨K,vs,hP,hvs,hF⟩:=h.parts;obtain⟨K2,vs2,hP2,hvs2,hF2⟩:=h2.parts;have HN:=hid (a0T P K n _ w hP);have HN2:=hid (a0T P2 K2 n2 _ w hP2);have HT:=hid (fun W (hW:KB w W)=>text_any K _ b W (hvs.below hW).at hok (hV.below hW));have HT2:=hid (fun W (hW:KB w W)=>text_any K2 _ b2 W (hvs2.below hW).at hok2 (hV.below hW));have r0:∀W,KB w W->W.cell? ⟨P,0,none⟩=some (.pointer (some ⟨K,0,none⟩)):=fun W hW=>keep_cell hW (heap_cell hP rfl);have r1:∀W,KB w W->W.cell? ⟨P2,0,none⟩=some (.pointer (some ⟨K2,0,none⟩)):=fun W hW=>keep_cell hW (heap_cell hP2 rfl);obtain⟨t1,ht1⟩:∃t,t=a0z b:=⟨_,rfl⟩
 obtain⟨t2,ht2⟩:∃t,t=a0z b2:=⟨_,rfl⟩
 rw[<-ht1,<-ht2];rw[<-ht1]at HT;rw[<-ht2]at HT2;clear h h2 hP hP2 hvs hvs2 hF hF2 hok hok2 hV ht1 ht2;go_enter func37,ntmps37;go_wp2_with fail
 refine HN.out.mono ?_;rintro e w' ⟨rfl,rfl⟩;go_wp2_with fail
 refine HN2.out.mono ?_;rintro e w' ⟨rfl,rfl⟩;go_wp2;go_region_held3 (fun W=>KB w W) (first|exact KB.refl _|exact KB.drew (KB.refl _)|assumption|exact KB.drew (by assumption)|fail) (first
 |(go_at_call_of 62 (Value.pointer (some (⟨K,0,none⟩:Addr)));refine(HT.out _ (by first|exact KB.refl _|exact KB.drew (KB.refl _)|assumption|exact KB.drew (by assumption))).mono ?_;rintro e w2 ⟨rfl,hb2⟩;have hk2:=KB.call (w:=w) (by first|exact KB.refl _|exact KB.drew (KB.refl _)|assumption|exact KB.drew (by assumption)) hb2;clear hb2)
 |(go_at_call_of 62 (Value.pointer (some (⟨K2,0,none⟩:Addr)));refine(HT2.out _ (by first|exact KB.refl _|exact KB.drew (KB.refl _)|assumption|exact KB.drew (by assumption))).mono ?_;rintro e w2 ⟨rfl,hb2⟩;have hk2:=KB.call (w:=w) (by first|exact KB.refl _|exact KB.drew (KB.refl _)|assumption|exact KB.drew (by assumption)) hb2;clear hb2)
 |fail)
 all_goals rw[a54]
 all_goals go_wp2
 all_goals go_ret
 all_goals exact⟨rfl,by assumption⟩
end Go.Proofs.YtdfkaijeppdhaaaGreatDoor
namespace Go.Proofs.YtdfkaijeppdhaaaGreatDoor
open Lib (hid)
open Proofs.Tryz Go.RowKit Go.Shelf
theorem Tryz.infoStr:(prog.info? 9).map (fun i=>(i.zero,i.size,i.bytes))=some (some (.string ⟨#[]⟩),1,16):=ot
theorem aiY{α β:Type}{f:α->Option β}{d:α}{l:List α}{k:Nat}(h:k<l.length):allS f (l.take (k+1))=match allS f (l.take k),f (l.getD k d)with
  |some ys,some y=>some (ys++[y])
  |_,_=>none:=by
 rw[aon h,allS_snoc,aoh,aoj h,aoW];cases allS f (l.take k)<;>rfl
theorem aiZ{α β:Type}{f:α->Option β}{l:List α}{x:α}(hx:x∈l)(h:f x=none):allS f l=none:=allS_bad f l hx h
def a0B(ans:List ByteArray->ByteArray×Int)(names:List ByteArray)(kn:Kn):ByteArray×Int:=match allS kn.txt names with
 |none=>(emp,5)
 |some ts=>if (ans ts).2=0 then ((ans ts).1,0)else (emp,(ans ts).2)
def a0J(r:ByteArray×Int)(w:World)(e:Ending)(w':World):Prop:=e= .returned (.tuple #[.string r.1,.int .i64 r.2])/\Below w.heap.size w w'
theorem aj0(gf:Nat)(eg:∀args w,(callFunc gf args).run prog w= .ok (.enter gf args) w)(ans:List ByteArray->ByteArray×Int)(nv bv:Value)(names:List ByteArray)(ns:List Int)(a b n:Nat)(kn:Kn)(w:World)
  (hN:StrsAt w nv names)(hI:IntsAt w bv ns)(h0:0<names.length)(hl:names.length<=1000)(hsz:∀x∈names,x.size<=8)(hK:KnAt w a b n kn)
  (hans:∀W base tv ts,Below w.heap.size w W->base<=W.heap.size->W.ownsRow base 9 1 tv ts.length (ts.map Value.string)->allS kn.txt names=some ts->Calls prog gf #[tv,bv] W (a0J (ans ts) W)):
  Calls prog 338 #[.agg #[nv,bv,.func (.func gf) #[] #[]],knV a b] w (a0J (a0B ans names kn) w):=by
 obtain⟨i0,hi0,hz0,hz1,hz2⟩:=info_parts Tryz.infoStr;obtain⟨R,hR⟩:∃R,R=a0B ans names kn:=⟨_,rfl⟩
 have HR:=hid hR;rw[<-hR];clear hR;obtain⟨bk,off,cap,rfl,hcap,hcc,hq⟩:=hN.cons h0;obtain⟨ia,icap,hbv,_⟩:=id hI;obtain⟨w1,hw1⟩:∃w1,w1=(w.alloc (.cells #[.slice (some ⟨bk,off,none⟩) names.length cap,bv,.func (.func gf) #[] #[]] 185)).alloc (.cells #[.map (some a),.map (some b)] 102):=⟨_,rfl⟩
 have hb1:Below w.heap.size w w1:=by rw[hw1];exact((aoi _ w).alloc (aof _) _).alloc oz _
 have HB1:=hid hb1;have HQ:=hid (fun j hj=>keep_cell hb1 (hq j hj));have HK1:=hid (hK.below hb1)
 have HE1:Hid (w1.heap[w.heap.size]? =some (.cells #[.slice (some ⟨bk,off,none⟩) names.length cap,bv,.func (.func gf) #[] #[]] 185 (0,0))):=hid (by
  rw[hw1];exact(aop _ _ _ oz).trans (World.alloc_heap_new w _))
 have HE2:Hid (w1.heap[w.heap.size+1]? =some (.cells #[.map (some a),.map (some b)] 102 (0,0))):=hid (by
  have:=World.alloc_heap_new (w.alloc (.cells #[.slice (some ⟨bk,off,none⟩) names.length cap,bv,.func (.func gf) #[] #[]] 185)) (.cells #[.map (some a),.map (some b)] 102);rw[aoq]at this;rw[hw1];exact this)
 have HANS:=hid hans;have HSZ:=hid hsz;have HZ1:Hid (w1.heap.size=w.heap.size+2):=hid (by rw[hw1];simp);have HW1:=hid hw1;obtain⟨nl,hnl⟩:∃nl,nl=names.length:=⟨_,rfl⟩
 have HN:=hid hnl;rw[<-hnl]at hcap h0 hl HE1 HW1⊢;clear hnl hw1 hb1 hN hI hK hans hsz hq;subst hbv;unfold knV;go_enter func338,ntmps338;go_wp2_with fail
 rw[<-HW1.out];have HL1:=hid HZ1.out;go_loopw [6,16] (fun o i wr=>∃(k:Nat) (ts:List ByteArray),k<=nl/\i= .int .i64 k/\Hid (allS kn.txt (names.take k)=some ts)/\Hid (ts.length=k)/\wr.ownsRow w1.heap.size 9 1 o k (ts.map Value.string)/\Below w1.heap.size w1 wr) (fun _ i _=>nl-(intOf i).toNat)
 case atStart=>exact⟨0,[],aot _,rfl,hid rfl,hid rfl,World.ownsRow_nil _ _ _ _,aoi _ _⟩
 case round=>
  obtain⟨k,ts,hk,rfl,hall,hlen,hown,hbel⟩:=hrel;have hsz1:=hbel.size;have e0:=keep_cell hbel (heap_cell (j:=0) HE1.out rfl);have e1:=keep_cell hbel (heap_cell (j:=1) HE1.out rfl);have e2:=keep_cell hbel (heap_cell (j:=2) HE1.out rfl);have e3:=keep_cell hbel (heap_cell (j:=0) HE2.out rfl);have e4:=keep_cell hbel (heap_cell (j:=1) HE2.out rfl);by_cases hlt:k<nl
  ·have hc:=keep_cell hbel (HQ.out k (by rw[<-HN.out];exact hlt));have HS:=hid (aiY (f:=kn.txt) (d:=emp) (l:=names) (k:=k) (by rw[<-HN.out];exact hlt));have hmem:names.getD k emp∈names:=by rw[aoh,aoj (by rw[<-HN.out];exact hlt)];exact aoZ _
   have HM:=hid hmem;have HXS:=HSZ.out _ hmem;clear hmem;generalize names.getD k emp=x at *;have hlook:=(HK1.out.below hbel).look x om
   have HB:=hid hbel;have HO:=hid hown;clear hbel hown;cases hx:kn.txt x with
   |some y=>
    rw[hx]at HS hlook;unfold abA at hlook;simp only[aoW,apV]at hlook;clear hx;go_wp2_with (at_builtin;refine wpList_append_own _ rfl _ _ 22 rfl w1.heap.size 9 i0 (.string ⟨#[]⟩) 1 16 underlying22 hi0 hz0 hz1 hz2 rfl ox _ _ _ rfl (HO.out.alloc _) ⟨wr.heap.size,0,none⟩ 1 1 [.string y] rfl rfl ?c1 ?c2 ?c3 ?c4 ?c5 ?_)
    case c1=>exact(a0h _ _ _)
    case c2=>intro u hu;simp at hu;subst hu;rfl
    case c3=>unfold maxLen;omega
    case c4=>omega
    case c5=>simp;omega
    intro v' w2 hown' hgrow _;have R:=below_append HB.out hsz1 HO.out (aof _) hgrow;clear hgrow;go_wp2;go_roundw
    case rel=>exact⟨k+1,ts++[y],om,by go_num,hid (by rw[HS.out,hall.out]),hid (by rw[aol,hlen.out];rfl),by rw[aoE];exact hown',R⟩
    case measure=>simp[intOf];omega
   |none=>
    have HRX:Hid (R=(emp,5)):=hid (by rw[HR.out];unfold a0B;rw[aiZ HM.out hx]);rw[hx]at hlook;unfold abA emp at hlook;simp only[Option.getD_none,apU]at hlook;clear hx;go_wp2;go_ret2;rw[HRX.out];exact⟨rfl,HB1.out.trans (HB.out.mono HB1.out.size)⟩
  have e:k=nl:=om;subst e
  have hts:allS kn.txt names=some ts:=by
   have:=hall.out;rw[HN.out,aoK]at this;exact this
  have HB:=hid (HB1.out.trans (hbel.mono HB1.out.size));have HA:=hid (HANS.out wr w1.heap.size _ ts HB.out hsz1 (by rw[hlen.out];exact hown) hts);have HRR:Hid (R=if (ans ts).2=0 then ((ans ts).1,0)else (emp,(ans ts).2)):=hid (by rw[HR.out];unfold a0B;rw[hts]);clear hown hbel hts;generalize ans ts=r at *;obtain⟨rs,re⟩:=r;by_cases hz:re=0
  ·subst hz;have HRX:Hid (R=(rs,0)):=hid (by rw[HRR.out];rfl);go_wp2_with fail
   refine HA.out.mono ?_;rintro e w5 ⟨rfl,h5⟩;go_wp2;go_ret2;rw[HRX.out];exact⟨rfl,below_trans HB.out h5⟩
  have HRX:Hid (R=(emp,re)):=hid (by rw[HRR.out];simp only;rw[if_neg hz]);have z0:(re != 0)=true:=by simpa using hz
  go_wp2_with fail
  refine HA.out.mono ?_;rintro e w5 ⟨rfl,h5⟩;go_wp2;go_ret2;rw[HRX.out];exact⟨rfl,below_trans HB.out h5⟩
def a3d(ts:List ByteArray):ByteArray×Int:=(ts.getD 0 emp,0)
theorem aj1(W:World)(base:Nat)(tv bv:Value)(ts:List ByteArray)(h:W.ownsRow base 9 1 tv ts.length (ts.map Value.string))(h0:0<ts.length)(hl:ts.length<=1000):Calls prog 116 #[tv,bv] W (a0J (a3d ts) W):=by
 rcases h.2 with⟨_,h1⟩|⟨g,cap,cur,rfl,_⟩
 ·omega
 have c0:=h.cellAt 0 om;rw[apr,aoj h0]at c0;have hx:a3d ts=(ts[0],0):=by unfold a3d;rw[aoh,aoj h0];rfl
 rw[hx];generalize ts[0]=x at *;generalize ts.length=n at *;simp only[Option.map_some]at c0;clear h hx;go_enter func116,ntmps116;go_wp2;go_ret2;exact⟨rfl,aoi _ _⟩
end Go.Proofs.YtdfkaijeppdhaaaGreatDoor
namespace Go.Proofs.YtdfkaijeppdhaaaGreatDoor
open Lib (hid)
open Proofs.Tryz Go.RowKit Go.Shelf
theorem aaq(P n:Nat)(F:List Nat)(b:a00)(line:ByteArray)(hs:line.size<=1000000)(w:World)(h:PostAt w P F n b)(hV:Vars w)(hd:Cmd.askO (a08 line)=false):
  Calls prog 36 #[.pointer (some ⟨P,0,none⟩),.string line] w (a0J (emp,100) w):=by
 obtain⟨K,vs,hP,hvs,hF⟩:=h.parts;have HN:=hid (a0T P K n _ w hP);have HA:=hid (a1U line hs w hV);have HD:=hid hd;clear h hP hvs hF hV hd;unfold emp;go_enter func36,ntmps36;go_wp2_with fail
 refine HN.out.mono ?_;rintro e w1 ⟨rfl,rfl⟩;go_wp2_with fail
 refine HA.out.mono ?_;rintro e w1 ⟨⟨pv,rfl,hpv⟩,hb1⟩;have hta:=a4m hpv w1;rw[HD.out]at hta;unfold ifV at hta;simp only[Bool.false_eq_true,if_false]at hta;have HB1:=hid hb1;clear hpv hb1;go_wp2;go_ret2;exact⟨rfl,HB1.out⟩
theorem agI(ans:List ByteArray->ByteArray×Int)(names:List ByteArray)(kn:Kn):(a0B ans names kn).2≠0->(a0B ans names kn).1=emp:=by
 unfold a0B;split
 ·exact fun _=>rfl
 split
 ·exact fun h=>absurd rfl h
 exact fun _=>rfl
theorem a5n(P n:Nat)(F:List Nat)(b:a00)(line:ByteArray)(hs:line.size<=1000000)(w:World)(h:PostAt w P F n b)(hok:a02 b)(hV:Vars w)(k:Nat)(names:List ByteArray)(ns:List Int)(hc:a08 line=some (.asked k names ns))
  (h0:0<names.length)(hl:names.length<=1000)(ans:List ByteArray->ByteArray×Int)(eg:∀args w,(callFunc (a5k k) args).run prog w= .ok (.enter (a5k k) args) w)
  (hans:∀W base tv bv ts,Below w.heap.size w W->base<=W.heap.size->W.ownsRow base 9 1 tv ts.length (ts.map Value.string)->IntsAt W bv ns->allS (a0e (a06 b)).txt names=some ts->Calls prog (a5k k) #[tv,bv] W (a0J (ans ts) W)):
  Calls prog 36 #[.pointer (some ⟨P,0,none⟩),.string line] w (a0J (a0B ans names (a0e (a06 b))) w):=by
 have HSM:=hid ((Cmd.names_small hc).2.2.2.2.2 k names ns rfl);have HANS:=hid hans;clear hans;obtain⟨R,hR⟩:∃R,R=a0B ans names (a0e (a06 b)):=⟨_,rfl⟩
 have HNM:=hid (agI ans names (a0e (a06 b)));have HR:=hid hR;rw[<-hR];clear hR;obtain⟨K,vs,hP,hvs,hF⟩:=h.parts;have HN:=hid (a0T P K n _ w hP);have HA:=hid (a1U line hs w hV);have HC:=hid hc;have HPC:=hid hP;have HVS:=hid hvs;have HVR:=hid hV;have HOK:=hid hok;clear h hP hvs hF hV hok hc;go_enter func36,ntmps36;go_wp2_with fail
 refine HN.out.mono ?_;rintro e w1 ⟨rfl,rfl⟩;go_wp2_with fail
 refine HA.out.mono ?_;rintro e w1 ⟨⟨pv,rfl,hpv⟩,hb1⟩;have hta:=a4m hpv w1;rw[HC.out]at hta hpv;rw[show Cmd.askO (some (.asked k names ns))=true from rfl]at hta;unfold ifV at hta;simp only[if_true]at hta;have HPV:=hid hpv;have HB1:=hid hb1;have HV1:=hid (HVR.out.below hb1);have r4:∀W,KB w1 W->W.cell? ⟨P,0,none⟩=some (.pointer (some ⟨K,0,none⟩)):=fun W hW=>keep_cell hW (keep_cell hb1 (heap_cell HPC.out rfl));have HALL:=hid (fun W (hW:KB w1 W)=>a4f K _ b W ((HVS.out.below HB1.out).below hW).at HOK.out);have HENT:Hid (∀e∈a06 b,(a0b e).size<=60):=hid (fun e he=>((a1d _).1 (by rw[<-a1I];exact(a0y HOK.out he).2.2.2)).1);have HLEN:Hid ((a06 b).length<=1000):=hid (by rw[a1j];have:=a1X HOK.out;omega);clear hpv hb1;go_wp2;obtain⟨a1,b1,rfl,hs1,hi1⟩:=HPV.out;have hme:∀w,(method 462 185 (.agg #[a1,b1,.func (.func (a5k k)) #[] #[]]) "skimmer/post.ask").run prog w= .ok (338,.agg #[a1,b1,.func (.func (a5k k)) #[] #[]]) w:=fun w=>adB _ w
 have hah:∀w,(nilAhead 462 185 (.agg #[a1,b1,.func (.func (a5k k)) #[] #[]]) "skimmer/post.ask").run prog w= .ok (some false) w:=fun w=>af6 _ w
 have HS1:=hid hs1;have HI1:=hid hi1;have HRR:=hid (show a0B ans names (a0e (a06 b))=R from HR.out.symm);clear hs1 hi1 hta;generalize a5k k=gf at *;have HAK:=hid (fun W (hW:KB w1 W) ka kb (hk:KnAt W ka kb (a06 b).length (a0e (a06 b)))=>aj0 gf eg ans a1 b1 names ns ka kb _ _ W (HS1.out.below hW) (HI1.out.below hW) h0 hl HSM.out hk (fun W2 base tv ts hb2 hbs hrow hts=>HANS.out W2 base tv b1 ts (below_trans HB1.out (hW.trans (hb2.mono hW.size))) hbs hrow ((HI1.out.below hW).below hb2) hts));rw[HRR.out]at HAK
 go_region_held3 (fun W=>KB w1 W) (first|exact KB.refl _|exact KB.drew (KB.refl _)|assumption|exact KB.drew (by assumption)|fail) (first
  |(go_at_call 57;refine(HALL.out _ (by first|exact KB.refl _|exact KB.drew (KB.refl _)|assumption)).mono ?_;rintro e w5 ⟨v5,rfl,hl5,ho5,hb5⟩;have q5:KB w1 w5:=KB.call (KB.drew (KB.refl _)) hb5;have HSY:=hid (a3Z v5 (a06 b) w5 (hl5.ents (by have:=HLEN.out;omega)) HLEN.out HENT.out (HV1.out.below q5));clear hl5 ho5 hb5)
  |(go_at_call 56;refine HSY.out.mono ?_;rintro e w6 ⟨ka,kb,rfl,hk6,hka,hkb,hb6⟩;have q6:KB w1 w6:=KB.call q5 hb6;have HK6:=hid hk6;have HV6:=hid (HV1.out.below q6);clear hk6 hka hkb hb6)
  |(go_at_call 338;refine(HAK.out _ q6 _ _ HK6.out).mono ?_;rintro e w7 ⟨rfl,hb7⟩;have q7:KB w1 w7:=KB.call q6 hb7;clear hb7)
  |fail)
 all_goals (
  rw[HRR.out]at HNM;obtain⟨rs,re⟩:=R;by_cases hz:re=0
  ·subst hz;go_wp2;go_ret2;exact⟨rfl,below_trans HB1.out q7⟩
  have z0:(re != 0)=true:=by simpa using hz
  have hem:rs=emp:=HNM.out hz;subst hem;go_wp2;go_ret2;exact⟨rfl,below_trans HB1.out q7⟩)
end Go.Proofs.YtdfkaijeppdhaaaGreatDoor
namespace Go.Proofs.YtdfkaijeppdhaaaGreatDoor
open Lib (hid)
open Proofs.Tryz Go.RowKit Go.Shelf
def a6A(line:ByteArray):ByteArray:=⟨(Lib.cut line.data.toList [32]).1.toArray⟩
def a1q(line:ByteArray):ByteArray:=⟨(Lib.cut line.data.toList [32]).2.1.toArray⟩
def amk:List UInt8:=[106,111,105,110,32]
def adK(s:ByteArray):Bool:=Lib.hasPrefix s.data.toList amk
def a5E(s:ByteArray):ByteArray:=⟨(Lib.trimPrefix s.data.toList amk).toArray⟩
def a6p(bs:Nat->a00)(i:Nat)(c:a00):Nat->a00:=fun j=>if j=i then c else bs j
def a30(s:ByteArray):Option Nat:=match a0d s with
 |some n=>if betw 0 n 3 then some n.toNat else none
 |none=>none
def a2r(a0k:a00->ByteArray->ByteArray×Int)(bs:Nat->a00)(line:ByteArray):(ByteArray×Int)×(Nat->a00):=match a30 (a6A line)with
 |none=>((emp,100),bs)
 | some n=>if adK (a1q line)then (match a30 (a5E (a1q line))with
   |none=>((emp,100),bs)
   |some k=>((itoaB (lenB (a0L (bs n) (bs k)).2:Int),(a0L (bs n) (bs k)).1),a6p bs n (a0L (bs n) (bs k)).2))
  else if Cmd.deedO (a08 (a1q line))then (((doB (bs n) n (a1q line)).1,(doB (bs n) n (a1q line)).2.1),a6p bs n (doB (bs n) n (a1q line)).2.2)
  else if Cmd.askO (a08 (a1q line))then (a0k (bs n) (a1q line),bs)
  else ((emp,100),bs)
theorem aar{s:ByteArray}{n:Nat}(h:a30 s=some n):a0d s=some (n:Int)/\n<4:=by
 unfold a30 at h;cases hn:a0d s with
 |none=>rw[hn]at h;cases h
 | some v=>
  rw[hn]at h;simp only at h;split at h
  ·rename_i hb
   rw[betw_iff]at hb;injection h with h
   subst h;exact⟨by rw[apF hb.1],om⟩
  cases h
theorem afT(l sep:List UInt8):(Lib.cut l sep).1.length<=l.length/\(Lib.cut l sep).2.1.length<=l.length:=by
 unfold Lib.cut;split<;>simp
 omega
theorem agJ(s:ByteArray):(a6A s).size<=s.size:=by
 have:=(afT s.data.toList [32]).1
 rw[a05,a05];exact this
theorem ace(s:ByteArray):(a1q s).size<=s.size:=by
 have:=(afT s.data.toList [32]).2
 rw[a05,a05];exact this
theorem agK(s:ByteArray):(a5E s).size<=s.size:=by
 rw[a05,a05];unfold a5E Lib.trimPrefix;split<;>simp
def U(ps:Nat->Pst):List Nat:=(ps 0).F++((ps 1).F++((ps 2).F++(ps 3).F))
theorem mem_U{ps:Nat->Pst}{k:Nat}:k∈U ps↔∃i,i<4/\k∈(ps i).F:=by
 unfold U;simp only[aoI];refine⟨fun h=>?_,fun⟨i,hi,h⟩=>?_⟩
 ·rcases h with h|h|h|h
  ·exact⟨0,om,h⟩
  ·exact⟨1,om,h⟩
  ·exact⟨2,om,h⟩
  exact⟨3,om,h⟩
 rcases (show i=0\/i=1\/i=2\/i=3 by omega)with rfl|rfl|rfl|rfl
 ·exact .inl h
 ·exact .inr (.inl h)
 ·exact .inr (.inr (.inl h))
 exact .inr (.inr (.inr h))
structure PostsAt(w:World)(S:Nat)(ps:Nat->Pst):Prop where
 posts:Posts w 4 ps
 row:∀j,j<4->w.cell? ⟨S,j,none⟩=some (.pointer (some ⟨(ps j).P,0,none⟩))
 own:S∉U ps
 ok:∀j,j<4->a02 (ps j).b
 num:∀j,j<4->(ps j).n=j
theorem PostsAt.lt{w:World}{S:Nat}{ps:Nat->Pst}(h:PostsAt w S ps):S<w.heap.size:=World.block_lt_of_cell? _ _ (h.row 0 om)
theorem PostsAt.below{w w':World}{S:Nat}{ps:Nat->Pst}(h:PostsAt w S ps)(hb:Below w.heap.size w w'):PostsAt w' S ps:=
 ⟨h.posts.below hb,fun j hj=>keep_cell hb (h.row j hj),h.own,h.ok,h.num⟩
structure Turn(w:World)(S:Nat)(ps:Nat->Pst)(bs:Nat->a00)(w':World):Prop where
 ex:∃ps',PostsAt w' S ps'/\(∀j,j<4->(ps' j).b=bs j)/\a2q w (U ps) (U ps')/\Off (U ps) w w'
theorem Turn.refl{w:World}{S:Nat}{ps:Nat->Pst}(h:PostsAt w S ps){w':World}(hb:Below w.heap.size w w'):Turn w S ps (fun j=>(ps j).b) w':=
 ⟨ps,h.below hb,fun _ _=>rfl,a2e _ _,Off.of_below hb⟩
theorem PostsAt.turn{w w':World}{S:Nat}{ps:Nat->Pst}(h:PostsAt w S ps){i:Nat}(hi:i<4){F':List Nat}{c:a00}(hp:PostAt w' (ps i).P F' i c)(hF:a2q w (ps i).F F')(ho:Off (ps i).F w w')(hc:a02 c):
  PostsAt w' S (a2X ps i ⟨(ps i).P,F',i,c⟩)/\a2q w (U ps) (U (a2X ps i ⟨(ps i).P,F',i,c⟩))/\Off (U ps) w w':=by
 have hin:∀k,k∈(ps i).F->k∈U ps:=fun k hk=>mem_U.2 ⟨i,hi,hk⟩
 have hU:a2q w (U ps) (U (a2X ps i ⟨(ps i).P,F',i,c⟩)):=fun k hk=>by
  obtain⟨j,hj,hk⟩:=mem_U.1 hk;by_cases e:j=i
  ·subst e;rw[a0V]at hk;exact(hF k hk).imp (hin k) id
  rw[a0C _ _ e]at hk;exact .inl (mem_U.2 ⟨j,hj,hk⟩)
 have hS:=h.lt;refine⟨⟨h.posts.turn hi (p:=⟨(ps i).P,F',i,c⟩) hp hF ho,fun j hj=>?_,fun hm=>?_,fun j hj=>?_,fun j hj=>?_⟩,hU,ho.mono fun k hk=>.inl (hin k hk)⟩
 ·rw[World.cell?_of_block (ho.block S hS fun hm=>h.own (hin S hm)),h.row j hj];by_cases e:j=i
  ·subst e;rw[a0V]
  rw[a0C _ _ e]
 ·rcases hU S hm with h1|h1
  ·exact h.own h1
  omega
 ·by_cases e:j=i
  ·subst e;rw[a0V];exact hc
  rw[a0C _ _ e];exact h.ok j hj
 by_cases e:j=i
 ·subst e;rw[a0V]
 rw[a0C _ _ e];exact h.num j hj
theorem Turn.of{w w':World}{S:Nat}{ps:Nat->Pst}(h:PostsAt w S ps){i:Nat}(hi:i<4){c:a00}(hx:∃F',PostAt w' (ps i).P F' i c/\a2q w (ps i).F F'/\Off (ps i).F w w')(hc:a02 c){bs:Nat->a00}(hbs:∀j,j<4->bs j=(ps j).b):Turn w S ps (a6p bs i c) w':=by
 obtain⟨F',h1,h2,h3⟩:=hx;obtain⟨k1,k2,k3⟩:=h.turn hi h1 h2 h3 hc;refine⟨_,k1,fun j hj=>?_,k2,k3⟩;unfold a6p;by_cases e:j=i
 ·subst e;rw[a0V,if_pos rfl]
 rw[a0C _ _ e,if_neg e,hbs j hj]
theorem Turn.more{w w' w'':World}{S:Nat}{ps:Nat->Pst}{bs:Nat->a00}(h:Turn w S ps bs w')(hb:Below w'.heap.size w' w''):Turn w S ps bs w'':=by
 obtain⟨ps',h1,h2,h3,h4⟩:=h.ex;refine⟨ps',h1.below hb,h2,h3,⟨hb.os.trans h4.os,hb.tape.trans h4.tape,hb.output.trans h4.output,aor h4.size hb.size,fun k hk hn=>(hb.block k (aox hk h4.size)).trans (h4.block k hk hn)⟩⟩
theorem Turn.ahead{w0 w w':World}{S:Nat}{ps:Nat->Pst}{bs:Nat->a00}(hb:Below w0.heap.size w0 w)(h:Turn w S ps bs w'):Turn w0 S ps bs w':=by
 obtain⟨ps',h1,h2,h3,h4⟩:=h.ex;refine⟨ps',h1,h2,fun k hk=>(h3 k hk).imp id (fun h=>aor hb.size h),⟨h4.os.trans hb.os,h4.tape.trans hb.tape,h4.output.trans hb.output,aor hb.size h4.size,fun k hk hn=>(h4.block k (aox hk hb.size) hn).trans (hb.block k hk)⟩⟩
def adL(w:World)(S:Nat)(ps:Nat->Pst)(r:(ByteArray×Int)×(Nat->a00))(e:Ending)(w':World):Prop:=
 e= .returned (.tuple #[.string r.1.1,.int .i64 r.1.2])/\Turn w S ps r.2 w'
end Go.Proofs.YtdfkaijeppdhaaaGreatDoor
namespace Go.Proofs.YtdfkaijeppdhaaaGreatDoor
open Lib (hid)
open Proofs.Tryz Go.RowKit Go.Shelf
theorem amA(line:ByteArray)(hs:line.size<=1000000)(w:World)(hV:Vars w):
  Calls prog 80 #[.string line,.string ⟨#[32]⟩] w fun e w'=>e= .returned (.tuple #[.string (a6A line),.string (a1q line),.bool (Lib.cut line.data.toList [32]).2.2])/\Below w.heap.size w w':=by
 obtain⟨m,hm⟩:=hV.ml;refine(Tryz.strings_Cut line ⟨#[32]⟩ m w om hm).mono ?_
 rintro e w' ⟨rfl,n,rfl⟩;exact⟨rfl,a0q (aoi _ _) _⟩
theorem ad3(s:ByteArray)(w:World):
  Calls prog 82 #[.string s,.string ⟨#[106,111,105,110,32]⟩] w fun e w'=>e= .returned (.tuple #[.string (a5E s),.bool (adK s)])/\w=w':=by
 refine(Tryz.strings_CutPrefix s ⟨#[106,111,105,110,32]⟩ w).mono ?_
 rintro e w' ⟨rfl,rfl⟩;exact⟨rfl,rfl⟩
theorem adM{s:ByteArray}(h:a0d s=none):a30 s=none:=by unfold a30;rw[h]
theorem acf{s:ByteArray}{v:Int}(h:a0d s=some v)(hb:betw 0 v 3=false):a30 s=none:=by unfold a30;rw[h];simp[hb]
theorem adN{s:ByteArray}{v:Int}(h:a0d s=some v)(hb:betw 0 v 3=true):a30 s=some v.toNat:=by unfold a30;rw[h];simp[hb]
theorem akW(a0k:a00->ByteArray->ByteArray×Int)(line:ByteArray)(hs:line.size<=1000000)(w:World)(S cap:Nat)(ps:Nat->Pst)(h:PostsAt w S ps)
  (hask:∀i W,i<4->a30 (a6A line)=some i->Cmd.askO (a08 (a1q line))=true->Below w.heap.size w W->Calls prog 36 #[.pointer (some ⟨(ps i).P,0,none⟩),.string (a1q line)] W (a0J (a0k (ps i).b (a1q line)) W)):
  Calls prog 47 #[.slice (some ⟨S,0,none⟩) 4 cap,.string line] w (adL w S ps (a2r a0k (fun j=>(ps j).b) line)):=by
 have hsf:=agJ line;have hsr:=ace line;have hso:=agK (a1q line);have HCU:=hid (amA line hs w h.posts.vars);have HP:=hid h;have HASK:=hid hask;clear hask h;obtain⟨R,hR⟩:∃R,R=a2r a0k (fun j=>(ps j).b) line:=⟨_,rfl⟩
 have HR:=hid hR;rw[<-hR];unfold a2r at HR;clear hR;obtain⟨q2,hq2⟩:∃q,q=(Lib.cut line.data.toList [32]).2.2:=⟨_,rfl⟩
 rw[<-hq2]at HCU;clear hq2;generalize a6A line=fw at *;generalize a1q line=rw0 at *;have HCP:=hid (fun W=>ad3 rw0 W);cases hn:a0d fw with
 |none=>
  have HNO:=hid (fun W (hW:KB w W)=>a7W fw hn om W (HP.out.posts.vars.below hW));have HRX:Hid (R=((emp,100),fun j=>(ps j).b)):=hid (by rw[HR.out,adM hn]);unfold agx at HNO;clear hn;go_enter func47,ntmps47;go_wp2_with fail
  refine HCU.out.mono ?_;rintro e w1 ⟨rfl,hb1⟩;have HB1:=hid hb1;have HP1:=hid (HP.out.below hb1);clear hb1;go_wp2_with fail
  refine(HNO.out _ HB1.out).mono ?_
  rintro e w2 ⟨y,rfl,hb2⟩;have HB2:=hid (KB.call HB1.out hb2);clear hb2;go_wp2;go_ret2;rw[HRX.out];exact⟨rfl,Turn.refl HP.out HB2.out⟩
 | some v=>
  have HNO:=hid (fun W (hW:KB w W)=>a7V fw v hn om W (HP.out.posts.vars.below hW));cases hb:betw 0 v 3 with
  |false=>
   have HRX:Hid (R=((emp,100),fun j=>(ps j).b)):=hid (by rw[HR.out,acf hn hb]);have HBT:=hid hb;clear hn hb;go_enter func47,ntmps47;go_wp2_with fail
   refine HCU.out.mono ?_;rintro e w1 ⟨rfl,hb1⟩;have HB1:=hid hb1;have HP1:=hid (HP.out.below hb1);clear hb1;go_wp2_with fail
   refine(HNO.out _ HB1.out).mono ?_
   rintro e w2 ⟨rfl,hb2⟩;have HB2:=hid (KB.call HB1.out hb2);clear hb2;go_wp2_with fail
   refine(between_any _ _ _ _).mono ?_
   rintro e w3 ⟨rfl,rfl⟩;rw[HBT.out];go_wp2;go_ret2;rw[HRX.out];exact⟨rfl,Turn.refl HP.out HB2.out⟩
  | true=>
   obtain⟨hv0,hv3⟩:=(betw_iff _ _ _).1 hb
   obtain⟨n,rfl⟩:∃n:Nat,v=(n:Int):=⟨v.toNat,(apF hv0).symm⟩
   have hpv:a30 fw=some n:=by rw[adN hn hb];simp
   have HPV:=hid hpv;have hn4:n<4:=om;have i2:(n:Int)<4:=om;have HBT:=hid hb;rw[hpv]at HR;simp only at HR;clear hn hb hpv;cases hj:adK rw0 with
   | true=>
    rw[hj]at HCP HR;simp only[if_true]at HR;generalize a5E rw0=ow at *;clear hj;cases hn2:a0d ow with
    |none=>
     have HNX:=hid (fun W (hW:KB w W)=>a7W ow hn2 om W (HP.out.posts.vars.below hW));have HRX:Hid (R=((emp,100),fun j=>(ps j).b)):=hid (by rw[HR.out,adM hn2]);unfold agx at HNX;clear hn2;go_enter func47,ntmps47;go_wp2_with fail
     refine HCU.out.mono ?_;rintro e w1 ⟨rfl,hb1⟩;have HB1:=hid hb1;have HP1:=hid (HP.out.below hb1);clear hb1;go_wp2_with fail
     refine(HNO.out _ HB1.out).mono ?_
     rintro e w2 ⟨rfl,hb2⟩;have HB2:=hid (KB.call HB1.out hb2);clear hb2;have c0:=keep_cell HB2.out (HP.out.row n hn4);go_wp2_with fail
     refine(between_any _ _ _ _).mono ?_
     rintro e w3 ⟨rfl,rfl⟩;rw[HBT.out];go_wp2_with fail
     refine(HCP.out _).mono ?_
     rintro e w4 ⟨rfl,rfl⟩;go_wp2_with fail
     refine(HNX.out _ HB2.out).mono ?_
     rintro e w5 ⟨y,rfl,hb5⟩;have HB5:=hid (KB.call HB2.out hb5);clear hb5;go_wp2;go_ret2;rw[HRX.out];exact⟨rfl,Turn.refl HP.out HB5.out⟩
    | some v2=>
     have HNX:=hid (fun W (hW:KB w W)=>a7V ow v2 hn2 om W (HP.out.posts.vars.below hW));cases hb2x:betw 0 v2 3 with
     |false=>
      have HRX:Hid (R=((emp,100),fun j=>(ps j).b)):=hid (by rw[HR.out,acf hn2 hb2x]);have HBX:=hid hb2x;clear hn2 hb2x;go_enter func47,ntmps47;go_wp2_with fail
      refine HCU.out.mono ?_;rintro e w1 ⟨rfl,hb1⟩;have HB1:=hid hb1;have HP1:=hid (HP.out.below hb1);clear hb1;go_wp2_with fail
      refine(HNO.out _ HB1.out).mono ?_
      rintro e w2 ⟨rfl,hb2⟩;have HB2:=hid (KB.call HB1.out hb2);clear hb2;have c0:=keep_cell HB2.out (HP.out.row n hn4);go_wp2_with fail
      refine(between_any _ _ _ _).mono ?_
      rintro e w3 ⟨rfl,rfl⟩;rw[HBT.out];go_wp2_with fail
      refine(HCP.out _).mono ?_
      rintro e w4 ⟨rfl,rfl⟩;go_wp2_with fail
      refine(HNX.out _ HB2.out).mono ?_
      rintro e w5 ⟨rfl,hb5⟩;have HB5:=hid (KB.call HB2.out hb5);clear hb5;go_wp2_with fail
      refine(between_any _ _ _ _).mono ?_
      rintro e w6 ⟨rfl,rfl⟩;rw[HBX.out];go_wp2;go_ret2;rw[HRX.out];exact⟨rfl,Turn.refl HP.out HB5.out⟩
     |true=>
      obtain⟨hk0,hk3⟩:=(betw_iff _ _ _).1 hb2x
      obtain⟨k,rfl⟩:∃k:Nat,v2=(k:Int):=⟨v2.toNat,(apF hk0).symm⟩
      have hk4:k<4:=om;have i3:(k:Int)<4:=om;have hpk:a30 ow=some k:=by rw[adN hn2 hb2x];simp
      rw[hpk]at HR;simp only at HR;have HBX:=hid hb2x;have HOKJ:=hid (a5C (HP.out.ok n hn4) (HP.out.ok k hk4));have HJ:=hid (fun W (hW:KB w W)=>acd (ps n).P n (ps n).F (ps n).b (ps k).P k (ps k).F (ps k).b W (by have h9:=(HP.out.below hW).posts.post n hn4;rw[HP.out.num n hn4]at h9;exact h9) (by have h9:=(HP.out.below hW).posts.post k hk4;rw[HP.out.num k hk4]at h9;exact h9) (HP.out.ok n hn4) (HP.out.ok k hk4));clear hn2 hb2x hpk;generalize a0L (ps n).b (ps k).b=jr at *
      obtain⟨jre,jrb⟩:=jr;go_enter func47,ntmps47;go_wp2_with fail
      refine HCU.out.mono ?_;rintro e w1 ⟨rfl,hb1⟩;have HB1:=hid hb1;have HP1:=hid (HP.out.below hb1);clear hb1;go_wp2_with fail
      refine(HNO.out _ HB1.out).mono ?_
      rintro e w2 ⟨rfl,hb2⟩;have HB2:=hid (KB.call HB1.out hb2);clear hb2;have c0:=keep_cell HB2.out (HP.out.row n hn4);go_wp2_with fail
      refine(between_any _ _ _ _).mono ?_
      rintro e w3 ⟨rfl,rfl⟩;rw[HBT.out];go_wp2_with fail
      refine(HCP.out _).mono ?_
      rintro e w4 ⟨rfl,rfl⟩;go_wp2_with fail
      refine(HNX.out _ HB2.out).mono ?_
      rintro e w5 ⟨rfl,hb5⟩;have HB5:=hid (KB.call HB2.out hb5);clear hb5;have c1:=keep_cell HB5.out (HP.out.row k hk4);go_wp2_with fail
      refine(between_any _ _ _ _).mono ?_
      rintro e w6 ⟨rfl,rfl⟩;rw[HBX.out];go_wp2_with fail
      refine(HJ.out _ HB5.out).mono ?_
      rintro e w7 ⟨rfl,hex⟩;have HT:=hid (Turn.ahead HB5.out (Turn.of (HP.out.below HB5.out) hn4 hex HOKJ.out (bs:=fun j=>(ps j).b) (fun j hj=>rfl)));obtain⟨F',hpa,_,_⟩:=hex;have HBK:=hid (acb (ps n).P n F' jrb w7 hpa HOKJ.out);have hV7:Vars w7:=by obtain⟨ps',h1,_⟩:=HT.out.ex;exact h1.posts.vars
      have HV7:=hid hV7;clear hpa hV7;go_wp2_with fail
      refine HBK.out.mono ?_;rintro e w8 ⟨lv,rfl,hl8,ho8,hb8⟩;obtain⟨la,lc,rfl⟩:=own_shape hl8;have hll:(a06 jrb).length=lenB jrb:=a1j jrb
      have hle:=a1X HOKJ.out;have HB8:=hid hb8;have HI:=hid (itoa_any ((lenB jrb:Nat):Int) om om w8 (HV7.out.below hb8));clear hl8 ho8 hb8;rw[hll];go_wp2_with fail
      refine HI.out.mono ?_;rintro e w9 ⟨rfl,hb9⟩;have HB9:=hid (below_trans HB8.out hb9);clear hb9;go_wp2;go_ret2;rw[HR.out];exact⟨rfl,HT.out.more HB9.out⟩
   | false=>
    rw[hj]at HCP HR;simp only[Bool.false_eq_true,if_false]at HR;clear hj;generalize a5E rw0=ow at *;have HPA:=hid (fun W (hW:KB w W)=>a1U rw0 om W (HP.out.posts.vars.below hW));go_enter func47,ntmps47;go_wp2_with fail
    refine HCU.out.mono ?_;rintro e w1 ⟨rfl,hb1⟩;have HB1:=hid hb1;have HP1:=hid (HP.out.below hb1);clear hb1;go_wp2_with fail
    refine(HNO.out _ HB1.out).mono ?_
    rintro e w2 ⟨rfl,hb2⟩;have HB2:=hid (KB.call HB1.out hb2);clear hb2;have c0:=keep_cell HB2.out (HP.out.row n hn4);go_wp2_with fail
    refine(between_any _ _ _ _).mono ?_
    rintro e w3 ⟨rfl,rfl⟩;rw[HBT.out];go_wp2_with fail
    refine(HCP.out _).mono ?_
    rintro e w4 ⟨rfl,rfl⟩;go_wp2_with fail
    refine(HPA.out _ HB2.out).mono ?_
    rintro e w5 ⟨⟨pv,rfl,hpv⟩,hb5⟩;have hta:=a3c hpv w5;have htb:=a4m hpv w5;have HB5:=hid (KB.call HB2.out hb5);clear hb5 hpv c0;cases hd:Cmd.deedO (a08 rw0)with
    |true=>
     rw[hd]at hta HR;unfold ifV at hta;simp only[if_true]at hta HR;clear htb hd;have HDO:=hid (aiO (ps n).P n hn4 (ps n).F (ps n).b rw0 om w5 (by have h9:=(HP.out.below HB5.out).posts.post n hn4;rw[HP.out.num n hn4]at h9;exact h9) (HP.out.ok n hn4) (HP.out.posts.vars.below HB5.out) (HP.out.posts.free n hn4));have HOKD:=hid (aa1 (HP.out.ok n hn4) hn4 rw0);generalize doB (ps n).b n rw0=dr at *
     obtain⟨d0,d1,d2⟩:=dr;go_wp2_with fail
     refine HDO.out.mono ?_;rintro e w6 ⟨rfl,hex⟩;have HT:=hid (Turn.ahead HB5.out (Turn.of (HP.out.below HB5.out) hn4 hex HOKD.out (bs:=fun j=>(ps j).b) (fun j hj=>rfl)));clear hex;go_wp2;go_ret2;rw[HR.out];exact⟨rfl,HT.out⟩
    | false=>
     rw[hd]at hta HR;unfold ifV at hta;simp only[Bool.false_eq_true,if_false]at hta HR;clear hd;cases hq:Cmd.askO (a08 rw0)with
     |true=>
      rw[hq]at htb HR;unfold ifV at htb;simp only[if_true]at htb HR;have HAQ:=hid (HASK.out n w5 hn4 HPV.out hq HB5.out);clear hq;generalize a0k (ps n).b rw0=ar at *
      obtain⟨a0,a1⟩:=ar;go_wp2_with fail
      refine HAQ.out.mono ?_;rintro e w6 ⟨rfl,hb6⟩;have HB6:=hid (KB.call HB5.out hb6);clear hb6;go_wp2;go_ret2;rw[HR.out];exact⟨rfl,Turn.refl HP.out HB6.out⟩
     |false=>
      rw[hq]at htb HR;unfold ifV at htb;simp only[Bool.false_eq_true,if_false]at htb HR;clear hq;go_wp2;go_ret2;rw[HR.out];exact⟨rfl,Turn.refl HP.out HB5.out⟩
end Go.Proofs.YtdfkaijeppdhaaaGreatDoor
namespace Go.Proofs.YtdfkaijeppdhaaaGreatDoor
open Lib (hid)
open Proofs.Tryz Go.RowKit Go.Shelf
def errW:ByteArray:=⟨#[101,114,114,111,114,32]⟩
def aas(r:ByteArray×Int):ByteArray:=if r.2=0 then r.1 else errW++itoaB r.2
def a2O(a0k:a00->ByteArray->ByteArray×Int)(lines:List ByteArray):Nat->List ByteArray×(Nat->a00)
 |0=>([],fun _=>a1G)
 |k+1=>((a2O a0k lines k).1++[aas (a2r a0k (a2O a0k lines k).2 (lines.getD k emp)).1],(a2r a0k (a2O a0k lines k).2 (lines.getD k emp)).2)
theorem af9(a0k:a00->ByteArray->ByteArray×Int){bs bs':Nat->a00}(h:∀j,j<4->bs j=bs' j)(line:ByteArray):(a2r a0k bs line).1=(a2r a0k bs' line).1/\∀j,j<4->(a2r a0k bs line).2 j=(a2r a0k bs' line).2 j:=by
 unfold a2r;cases hp:a30 (a6A line)with
 |none=>exact⟨rfl,h⟩
 | some n=>
  have hn:=(aar hp).2
  have hset:∀(c c':a00),c=c'->∀j,j<4->a6p bs n c j=a6p bs' n c' j:=fun c c' e j hj=>by
   unfold a6p;split
   ·exact e
   exact h j hj
  simp only;rw[h n hn];split
  ·cases hk:a30 (a5E (a1q line))with
   |none=>exact⟨rfl,h⟩
   |some k=>
    simp only;rw[h k (aar hk).2];exact⟨rfl,hset _ _ rfl⟩
  split
  ·exact⟨rfl,hset _ _ rfl⟩
  split
  ·exact⟨rfl,h⟩
  exact⟨rfl,h⟩
theorem amB(b:a00)(n:Nat)(line:ByteArray):0<=(doB b n line).2.1/\(doB b n line).2.1<=1000:=by
 unfold doB;split
 ·simp
 rename_i c hc
 split
 ·simp
 split
 ·simp
 split
 ·simp
 cases c<;>simp[a19]
 split<;>simp
theorem aj2(a0k:a00->ByteArray->ByteArray×Int)(hsm:∀b l,0<=(a0k b l).2/\(a0k b l).2<=1000)(bs:Nat->a00)(line:ByteArray):0<=(a2r a0k bs line).1.2/\(a2r a0k bs line).1.2<=1000:=by
 unfold a2r;split
 ·simp
 split
 ·split
  ·simp
  simp only[a0L];split<;>simp
 split
 ·exact amB _ _ _
 split
 ·exact hsm _ _
 simp
theorem a9z(a0k:a00->ByteArray->ByteArray×Int)(lines:List ByteArray):∀k,(a2O a0k lines k).1.length=k
 |0=>rfl
 |k+1=>by unfold a2O;rw[aol,a9z a0k lines k];rfl
theorem PostAt.types{w:World}{P n:Nat}{F:List Nat}{b:a00}(h:PostAt w P F n b){k:Nat}(hk:k∈F):∃cs t fr,w.heap[k]? =some (.cells cs t fr)/\(t=81\/t=96\/t=43):=by
 obtain⟨K,vs,hP,hvs,rfl⟩:=h.parts;rcases aov.1 hk with rfl|hk
 ·exact⟨_,_,_,hP,.inl rfl⟩
 rcases aov.1 hk with rfl|hk
 ·exact⟨_,_,_,hvs.cells,.inr (.inl rfl)⟩
 obtain⟨i,hi,h5⟩:=mem_blks.1 hk;rcases (hvs.list i hi).2 with⟨h1,_⟩|⟨g',cap',cur,h1,_,h2,_⟩
 ·rw[h1]at h5;cases h5
 rw[h1]at h5;have:g'=k:=by simpa [Value.ownBlock]using h5
 subst this;exact⟨_,_,_,h2,.inr (.inr rfl)⟩
theorem a5F{w:World}{base:Nat}{e:TypeId}{size:Nat}{v:Value}{n:Nat}{xs:List Value}(h:w.ownsRow base e size v n xs){k:Nat}(hk:v.ownBlock=some k):∃cur,w.heap[k]? =some (.cells cur e (0,0)):=by
 rcases h.2 with⟨h1,_⟩|⟨g',cap',cur,h1,_,h2,_⟩
 ·rw[h1]at hk;cases hk
 rw[h1]at hk;have:g'=k:=by simpa [Value.ownBlock]using hk
 subst this;exact⟨_,h2⟩
theorem PostAt.not_own{w:World}{P n:Nat}{F:List Nat}{b:a00}(h:PostAt w P F n b){base:Nat}{e:TypeId}{size:Nat}{v:Value}{m:Nat}{xs:List Value}(hr:w.ownsRow base e size v m xs)(he:e≠81/\e≠96/\e≠43){k:Nat}(hk:k∈F):v.ownBlock≠some k:=fun hv=>by
 obtain⟨cs,t,fr,h1,h2⟩:=h.types hk;obtain⟨cur,h3⟩:=a5F hr hv;rw[h1]at h3;simp only[Option.some.injEq,Obj.cells.injEq]at h3;obtain⟨_,rfl,_⟩:=h3;rcases h2 with h2|h2|h2
 ·exact he.1 h2
 ·exact he.2.1 h2
 exact he.2.2 h2
theorem a0O{w w':World}{base:Nat}{e:TypeId}{size:Nat}{v:Value}{n:Nat}{xs:List Value}(h:w.ownsRow base e size v n xs)(hk:∀k,v.ownBlock=some k->w'.heap[k]? =w.heap[k]?):w'.ownsRow base e size v n xs:=by
 refine⟨h.1,?_⟩;rcases h.2 with hn|⟨g,cap,cur,rfl,hbg,hg,hrest⟩
 ·exact .inl hn
 exact .inr ⟨g,cap,cur,rfl,hbg,(hk g rfl).trans hg,hrest⟩
theorem Posts.grown{w w':World}{m:Nat}{ps:Nat->Pst}(h:Posts w m ps){base:Nat}{e:TypeId}{size:Nat}{v:Value}{n:Nat}{xs:List Value}(hr:w.ownsRow base e size v n xs)(he:e≠81/\e≠96/\e≠43)(hv:∀k,a1z k->k<base)(hg:w.grownBy w' v.ownBlock):Posts w' m ps:=
 h.keep (fun k hk=>hg.block k (h.vars.lt hk) fun e2=>by have:=(hr.lt k e2.symm).1;have:=hv k hk;omega) fun i hi k hk=>hg.block k (h.lt hi hk) fun e2=>(h.post i hi).not_own hr he hk e2.symm
def a89(ps:Nat->Pst)(k:Nat):List Value:=(List.range k).map fun j=>.pointer (some ⟨(ps j).P,0,none⟩)
theorem aj3(ps:Nat->Pst)(k:Nat)(p:Pst):a89 (a2X ps k p) (k+1)=a89 ps k++[.pointer (some ⟨p.P,0,none⟩)]:=by
 unfold a89;rw[List.range_succ,aoE,List.map_singleton,a0V];congr 1;refine apN fun j hj=>?_;rw[a0C _ _ (by have:=List.mem_range.1 hj;omega)]
theorem amC(ps:Nat->Pst){k j:Nat}(h:j<k):(a89 ps k)[j]? =some (.pointer (some ⟨(ps j).P,0,none⟩)):=by
 unfold a89;rw[apr,List.getElem?_range h];rfl
theorem Tryz.infoPtr:(prog.info? 33).map (fun i=>(i.zero,i.size,i.bytes))=some (some (.pointer none),1,8):=ot
end Go.Proofs.YtdfkaijeppdhaaaGreatDoor
namespace Go.Proofs.YtdfkaijeppdhaaaGreatDoor
open Lib (hid)
open Proofs.Tryz Go.RowKit Go.Shelf
def akX(outs:List ByteArray)(w:World)(e:Ending)(w':World):Prop:=
 ∃v,e= .returned (.tuple #[v,.int .i64 0])/\w'.ownsRow w.heap.size 9 1 v outs.length (outs.map Value.string)/\Below w.heap.size w w'
theorem a65:(9:Nat)≠81/\(9:Nat)≠96/\(9:Nat)≠43:=by decide
theorem acg:(33:Nat)≠81/\(33:Nat)≠96/\(33:Nat)≠43:=by decide
structure Made(w:World)(k:Nat)(o:Value)(ps:Nat->Pst)(wr:World):Prop where
 row:wr.ownsRow w.heap.size 33 1 o k (a89 ps k)
 posts:Posts wr k ps
 news:∀j,j<k->(ps j).n=j/\(ps j).b=a1G
 below:Below w.heap.size w wr
 fresh:∀j,j<k->∀g∈(ps j).F,w.heap.size<=g
structure Played(a0k:a00->ByteArray->ByteArray×Int)(lines:List ByteArray)(w:World)(S k:Nat)(cur:Array Value)(o:Value)(ps:Nat->Pst)(wr:World):Prop where
 row:wr.ownsRow w.heap.size 9 1 o k ((a2O a0k lines k).1.map Value.string)
 posts:PostsAt wr S ps
 books:∀j,j<4->(ps j).b=(a2O a0k lines k).2 j
 below:Below w.heap.size w wr
 slice:wr.heap[S]? =some (.cells cur 33 (0,0))
 fresh:∀g∈U ps,w.heap.size<=g
theorem Made.next{w:World}{k:Nat}{o:Value}{ps:Nat->Pst}{wr:World}(h:Made w k o ps wr)(hV:∀j,a1z j->j<w.heap.size){w1 w2:World}{p:Pst}{v':Value}{ob:Obj}(hp:PostAt w1 p.P p.F p.n p.b)(hF:a2q wr [] p.F)(hb:Below wr.heap.size wr w1)(hn:p.n=k/\p.b=a1G)
  (hrow:w2.ownsRow w.heap.size 33 1 v' (k+1) (a89 ps k++[.pointer (some ⟨p.P,0,none⟩)]))(hg:(w1.alloc ob).grownBy w2 o.ownBlock):Made w (k+1) v' (a2X ps k p) w2:=by
 have hr1:(w1.alloc ob).ownsRow w.heap.size 33 1 o k (a89 ps k):=own_below h.row (hb.alloc hb.size _)
 have hP1:=h.posts.grow hp hF hb;have hP2:=hP1.below ((aoi _ w1).alloc (aof _) ob);have hsz:=h.below.size;have hsz2:=hb.size;refine⟨by rw[aj3];exact hrow,hP2.grown hr1 acg hV hg,fun j hj=>?_,?_,fun j hj g hg2=>?_⟩
 ·by_cases e:j=k
  ·subst e;rw[a0V];exact hn
  rw[a0C _ _ e];exact h.news j om
 ·exact below_append (h.below.trans (hb.mono hsz)) om (own_below h.row hb) (aof _) hg
 by_cases e:j=k
 ·subst e;rw[a0V]at hg2;have:=(hF g hg2).resolve_left oz
  omega
 rw[a0C _ _ e]at hg2;exact h.fresh j om g hg2
theorem Played.next{a0k:a00->ByteArray->ByteArray×Int}{lines:List ByteArray}{w:World}{S k:Nat}{cur:Array Value}{o:Value}{ps:Nat->Pst}{wr:World}(h:Played a0k lines w S k cur o ps wr)(hV:∀j,a1z j->j<w.heap.size){w1 w1' w2:World}{v':Value}{ob:Obj}
  (hT:Turn wr S ps (a2r a0k (fun j=>(ps j).b) (lines.getD k emp)).2 w1)(hb1:Below w1.heap.size w1 w1')
  (hrow:w2.ownsRow w.heap.size 9 1 v' (k+1) ((a2O a0k lines k).1.map Value.string++[.string (aas (a2r a0k (fun j=>(ps j).b) (lines.getD k emp)).1)]))(hg:(w1'.alloc ob).grownBy w2 o.ownBlock):∃ps',Played a0k lines w S (k+1) cur v' ps' w2:=by
 obtain⟨ps',h1,h2,h3,h4⟩:=(hT.more (hb1.alloc hb1.size ob)).ex
 have hsz:=h.below.size
 have hrx:(w1'.alloc ob).ownsRow w.heap.size 9 1 o k ((a2O a0k lines k).1.map Value.string):=a0O h.row fun g hg0=>h4.block g (by have:=h.row.lt g hg0;exact this.2) fun hm=>by
  obtain⟨i,hi,hm⟩:=mem_U.1 hm;exact(h.posts.posts.post i hi).not_own h.row a65 hm hg0
 have hfr:∀g∈U ps',w.heap.size<=g:=fun g hm=>(h3 g hm).elim (h.fresh g) (fun h9=>aor hsz h9)
 have hbx:Below w.heap.size w (w1'.alloc ob):=h.below.trans (h4.below hsz h.fresh);have hcg:=af9 a0k h.books (lines.getD k emp);have hS:(w1'.alloc ob).heap[S]? =some (.cells cur 33 (0,0)):=(h4.block S h.posts.lt h.posts.own).trans h.slice
 have hoS:some S≠o.ownBlock:=fun e=>by
  obtain⟨c2,h9⟩:=a5F hrx e.symm;rw[hS]at h9;simp at h9
 have hSg:w2.heap[S]? =(w1'.alloc ob).heap[S]? :=hg.block S (aog.1 hS).1 hoS
 refine⟨ps',⟨by
  have:(a2O a0k lines (k+1)).1=(a2O a0k lines k).1++[aas (a2r a0k (fun j=>(ps j).b) (lines.getD k emp)).1]:=by rw[hcg.1];rfl
  rw[this,aoE];exact hrow,⟨h1.posts.grown hrx a65 hV hg,fun j hj=>?_,h1.own,h1.ok,h1.num⟩,fun j hj=>?_,?_,hSg.trans hS,hfr⟩⟩
 ·rw[World.cell?_of_block hSg];exact h1.row j hj
 ·rw[h2 j hj,hcg.2 j hj];rfl
 exact hbx.grown hg (by have:=hbx.size;omega) (fun g e=>(hrx.lt g e).1)
theorem akY(a0k:a00->ByteArray->ByteArray×Int)(hsm:∀b l,0<=(a0k b l).2/\(a0k b l).2<=1000)(lv:Value)(lines:List ByteArray)(w:World)(hL:StrsAt w lv lines)(hl:lines.length<=100)(hsz:∀x∈lines,x.size<=1000000)(hV:Vars w)
  (hask:∀k,k<lines.length->∀P n F b W,n<4->PostAt W P F n b->a02 b->Vars W->Cmd.askO (a08 (a1q (lines.getD k emp)))=true->Calls prog 36 #[.pointer (some ⟨P,0,none⟩),.string (a1q (lines.getD k emp))] W (a0J (a0k b (a1q (lines.getD k emp))) W)):
  Calls prog 17 #[lv] w (akX (a2O a0k lines lines.length).1 w):=by
 obtain⟨i0,hi0,hz0,hz1,hz2⟩:=info_parts Tryz.infoPtr;obtain⟨i1,hi1,hy0,hy1,hy2⟩:=info_parts Tryz.infoStr;have HV:=hid hV;have HVL:=hid (fun j hj=>hV.lt (k:=j) hj);have HASK:=hid hask;have HSZ:=hid hsz;obtain⟨la,lcap,rfl,hcap,hcc,hq⟩:=hL;have HQ:=hid hq;obtain⟨nl,hnl⟩:∃nl,nl=lines.length:=⟨_,rfl⟩
 have HN:=hid hnl;rw[<-hnl]at hcap hl⊢
 have HLI:Hid (∀k,k<nl->∃b off,la=some ⟨b,off,none⟩/\w.cell? ⟨b,off+k,none⟩=some (.string (lines.getD k emp))):=hid (fun k hk=>by
  obtain⟨b,off,h1,h2⟩:=hq om;exact⟨b,off,h1,h2 k om⟩)
 clear hnl hV hask hsz hq;go_enter func17,ntmps17;go_wp2;go_loopw [4,16] (fun o i wr=>∃(k:Nat) (ps:Nat->Pst),k<=4/\i= .int .i64 k/\Hid (Made w k o ps wr)) (fun _ i _=>4-(intOf i).toNat)
 case atStart=>exact⟨0,fun _=>⟨0,[],0,a1G⟩,om,rfl,hid ⟨World.ownsRow_nil _ _ _ _,Posts.nil HV.out _,fun j hj=>om,aoi _ _,fun j hj=>om⟩⟩
 case round=>
  obtain⟨k,ps,hk,rfl,hm⟩:=hrel;by_cases hlt:k<4
  ·have hlt2:(k:Int)<4:=om;have hrow:=hm.out.row;obtain⟨oa,oc,rfl⟩:=own_shape hrow;have hb1:Below wr.heap.size wr ((wr.alloc (.cells #[.slice none 0 0,.slice none 0 0,.slice none 0 0,.slice none 0 0] 96)).alloc (.cells #[.pointer (some ⟨wr.heap.size,0,none⟩),.int .i64 k] 81)):=((aoi _ _).alloc (aof _) _).alloc oz _
   have HNP:=hid (adl k wr);have HNW:=hid (afL k hlt wr);have hszr:=hm.out.below.size;clear hrow;go_wp2_with fail
   refine HNW.out.mono ?_;rintro e w1 ⟨rfl,hw1⟩;rw[<-hw1]at hb1 HNP;have HO1:=hid (own_below hm.out.row hb1);have HB1:=hid hb1;have hsz2:w.heap.size<=w1.heap.size:=aor hszr hb1.size;clear hw1 hb1;go_wp2_with (at_builtin;refine wpList_append_own _ rfl _ _ 31 rfl w.heap.size 33 i0 (.pointer none) 1 8 underlying31 hi0 hz0 hz1 hz2 rfl ox _ _ _ rfl (HO1.out.alloc _) ⟨w1.heap.size,0,none⟩ 1 1 [.pointer (some ⟨wr.heap.size+1,0,none⟩)] rfl rfl ?c1 ?c2 ?c3 ?c4 ?c5 ?_)
   case c1=>exact(a0h _ _ _)
   case c2=>intro u hu;simp at hu;subst hu;rfl
   case c3=>unfold maxLen;omega
   case c4=>omega
   case c5=>simp;omega
   intro v' w2 hown' hgrow _;have HM:=hid (hm.out.next HVL.out (p:=⟨wr.heap.size+1,[wr.heap.size+1,wr.heap.size],k,a1G⟩) HNP.out (fun g hg=>.inr (by simp at hg;omega)) HB1.out ⟨rfl,rfl⟩ hown' hgrow);clear hown' hgrow;go_wp2;go_roundw
   case rel=>exact⟨k+1,_,om,by go_num,HM⟩
   case measure=>simp[intOf];omega
  have e:k=4:=om;subst e;rw[show ((4:Nat):Int)=4 from rfl];have hrow:=hm.out.row;obtain⟨S,cap,cur,hos,_,hScur,_⟩:=hrow.2.resolve_left (fun h=>by simp at h);subst hos
  have HP0:Hid (Played a0k lines w S 0 cur (.slice none 0 0) ps wr):=hid (by
   refine⟨World.ownsRow_nil _ _ _ _,⟨hm.out.posts,fun j hj=>?_,fun hmm=>?_,fun j hj=>?_,fun j hj=>(hm.out.news j hj).1⟩,fun j hj=>(hm.out.news j hj).2,hm.out.below,hScur,fun g hg=>?_⟩
   ·have h9:=hrow.cellAt j om;rw[h9,amC ps hj]
   ·obtain⟨i,hi,hmm⟩:=mem_U.1 hmm;exact(hm.out.posts.post i hi).not_own hrow acg hmm rfl
   ·rw[(hm.out.news j hj).2];exact a4b
   obtain⟨i,hi,hg⟩:=mem_U.1 hg;exact hm.out.fresh i hi g hg)
  clear hrow hScur;go_wp2;obtain⟨wo,hwo⟩:∃wo,wo=wr:=⟨_,rfl⟩
  subst hwo;go_loopw [8,31] (fun o i wr=>∃(k:Nat) (ps:Nat->Pst),k<=nl/\i= .int .i64 k/\Hid (Played a0k lines w S k cur o ps wr)) (fun _ i _=>nl-(intOf i).toNat)
  case atStart=>exact⟨0,_,aot _,rfl,HP0⟩
  case round=>
   obtain⟨k,ps,hk,rfl,hp⟩:=hrel;have hrow:=hp.out.row;obtain⟨oa,oc,rfl⟩:=own_shape hrow;clear hrow;by_cases hlt:k<nl
   ·obtain⟨lb,loff,rfl,hc0⟩:=HLI.out k hlt;have hc:=keep_cell hp.out.below hc0;have hxs:=HSZ.out (lines.getD k emp) (by rw[aoh,aoj (by rw[<-HN.out];exact hlt)];exact aoZ _);have hszr:=hp.out.below.size;have HD:=hid (akW a0k (lines.getD k emp) hxs wr S cap ps hp.out.posts (fun i W hi _ hq hb=>HASK.out k (by rw[<-HN.out];exact hlt) _ i _ _ W hi (by have h9:=(hp.out.posts.below hb).posts.post i hi;rw[hp.out.posts.num i hi]at h9;exact h9) (hp.out.posts.ok i hi) (hp.out.posts.posts.vars.below hb) hq));have HER:=hid (aj2 a0k hsm (fun j=>(ps j).b) (lines.getD k emp));have HNXT:=hid (fun w1 w1' w2 v' ob (hT:Turn wr S ps (a2r a0k (fun j=>(ps j).b) (lines.getD k emp)).2 w1) (hb1:Below w1.heap.size w1 w1') hrow hg=>hp.out.next HVL.out (w1:=w1) (w1':=w1') (w2:=w2) (v':=v') (ob:=ob) hT hb1 hrow hg);have hpl:=a9z a0k lines k;unfold adL at HD;generalize lines.getD k emp=x at *;generalize a2r a0k (fun j=>(ps j).b) x=r at *;obtain⟨⟨ra,re⟩,rb⟩:=r;simp only at HER;clear hc0;by_cases hz:re=0
    ·subst hz;go_wp2_with fail
     refine HD.out.mono ?_;rintro e w1 ⟨rfl,hT⟩;have HT:=hid hT
     have HO1:Hid (w1.ownsRow w.heap.size 9 1 (.slice oa k oc) k ((a2O a0k lines k).1.map Value.string)):=hid (by
      obtain⟨ps',h1,h2,h3,h4⟩:=hT.ex
      exact a0O hp.out.row fun g hg0=>h4.block g (hp.out.row.lt g hg0).2 fun hm=>by
       obtain⟨i,hi,hm⟩:=mem_U.1 hm;exact(hp.out.posts.posts.post i hi).not_own hp.out.row a65 hm hg0)
     have hsz2:w.heap.size<=w1.heap.size:=by obtain⟨ps',h1,h2,h3,h4⟩:=hT.ex;have:=h4.size;omega
     clear hT;go_wp2_with (at_builtin;refine wpList_append_own _ rfl _ _ 22 rfl w.heap.size 9 i1 (.string ⟨#[]⟩) 1 16 underlying22 hi1 hy0 hy1 hy2 rfl ox _ _ _ rfl (HO1.out.alloc _) ⟨w1.heap.size,0,none⟩ 1 1 [.string ra] rfl rfl ?c1 ?c2 ?c3 ?c4 ?c5 ?_)
     case c1=>exact(a0h _ _ _)
     case c2=>intro u hu;simp at hu;subst hu;rfl
     case c3=>unfold maxLen;omega
     case c4=>omega
     case c5=>simp;omega
     intro v' w2 hown' hgrow _;have HM:=hid (HNXT.out _ _ w2 v' _ HT.out (aoi _ _) hown' hgrow);obtain⟨psn,h9⟩:=HM.out;have HMN:=hid h9;clear hown' hgrow HM h9;go_wp2;go_roundw
     case rel=>exact⟨k+1,psn,om,by go_num,HMN⟩
     case measure=>simp[intOf];omega
    have z0:(re != 0)=true:=by simpa using hz
    go_wp2_with fail
    refine HD.out.mono ?_;rintro e w1 ⟨rfl,hT⟩;have HV1:Hid (Vars w1):=hid (by obtain⟨ps',h1,_⟩:=hT.ex;exact h1.posts.vars);have HT:=hid hT
    have HO1:Hid (w1.ownsRow w.heap.size 9 1 (.slice oa k oc) k ((a2O a0k lines k).1.map Value.string)):=hid (by
     obtain⟨ps',h1,h2,h3,h4⟩:=hT.ex
     exact a0O hp.out.row fun g hg0=>h4.block g (hp.out.row.lt g hg0).2 fun hm=>by
      obtain⟨i,hi,hm⟩:=mem_U.1 hm;exact(hp.out.posts.posts.post i hi).not_own hp.out.row a65 hm hg0)
    have hsz2:w.heap.size<=w1.heap.size:=by obtain⟨ps',h1,h2,h3,h4⟩:=hT.ex;have:=h4.size;omega
    have HI:=hid (itoa_any re (by have:=HER.out;omega) (by have:=HER.out;omega) w1 HV1.out);have HPA:Hid (aas (ra,re)=(⟨#[101,114,114,111,114,32]⟩:ByteArray)++itoaB re):=hid (by unfold aas errW;rw[if_neg hz])
    have hadd:¬9223372036854775807<6+(itoaB re).size:=by
     have h9:=a79 (n:=re) HER.out.1 (by have:=HER.out;omega);rw[a05,show (itoaB re).data.toList=Lib.itoa re from rfl];omega
    rw[HPA.out]at HNXT;clear hT;go_wp2_with fail
    refine HI.out.mono ?_;rintro e w3 ⟨rfl,hb3⟩;have HO3:=hid (own_below HO1.out hb3);have hsz3:w.heap.size<=w3.heap.size:=aor hsz2 hb3.size;have HB3:=hid hb3;clear hb3;go_wp2_with (at_builtin;refine wpList_append_own _ rfl _ _ 22 rfl w.heap.size 9 i1 (.string ⟨#[]⟩) 1 16 underlying22 hi1 hy0 hy1 hy2 rfl ox _ _ _ rfl (HO3.out.alloc _) ⟨w3.heap.size,0,none⟩ 1 1 [.string ((⟨#[101,114,114,111,114,32]⟩:ByteArray)++itoaB re)] rfl rfl ?c1 ?c2 ?c3 ?c4 ?c5 ?_)
    case c1=>exact(a0h _ _ _)
    case c2=>intro u hu;simp at hu;subst hu;rfl
    case c3=>unfold maxLen;omega
    case c4=>omega
    case c5=>simp;omega
    intro v' w2 hown' hgrow _;have HM:=hid (HNXT.out _ _ w2 v' _ HT.out HB3.out hown' hgrow);obtain⟨psn,h9⟩:=HM.out;have HMN:=hid h9;clear hown' hgrow HM h9;go_wp2;go_roundw
    case rel=>exact⟨k+1,psn,om,by go_num,HMN⟩
    case measure=>simp[intOf];omega
   have e:k=nl:=om;subst e;have HR:=hid hp.out.row;have HBE:=hid hp.out.below;have hpl:=a9z a0k lines k;go_wp2;go_ret2;exact⟨_,rfl,by rw[hpl];exact HR.out,HBE.out⟩
end Go.Proofs.YtdfkaijeppdhaaaGreatDoor
namespace Go.Proofs.YtdfkaijeppdhaaaGreatDoor
open Lib (hid)
open Proofs.Tryz Go.RowKit Go.Shelf
def StrsW(w:World)(v:Value)(l:List ByteArray):Prop:=∃(a:Option Addr) (cap:Nat),v= .slice a l.length cap/\(0<l.length->∃b off,a=some ⟨b,off,none⟩/\∀j,j<l.length->w.cell? ⟨b,off+j,none⟩=some (.string (l.getD j emp)))
theorem StrsW.below{w w':World}{v:Value}{l:List ByteArray}(h:StrsW w v l)(hb:Below w.heap.size w w'):StrsW w' v l:=by
 obtain⟨a,cap,rfl,h⟩:=h;refine⟨a,cap,rfl,fun h0=>?_⟩;obtain⟨b,off,ha,hc⟩:=h h0;exact⟨b,off,ha,fun j hj=>keep_cell hb (hc j hj)⟩
theorem aj4{base:Nat}{w:World}{v:Value}{l:List ByteArray}(h:w.ownsRow base 9 1 v l.length (l.map Value.string)):StrsW w v l:=by
 rcases h.2 with⟨rfl,h0⟩|⟨g,cap,cur,rfl,hrest⟩
 ·exact⟨none,0,by rw[h0],fun h1=>om⟩
 refine⟨some ⟨g,0,none⟩,cap,rfl,fun _=>⟨g,0,rfl,fun j hj=>?_⟩⟩;have:=h.cellAt j om;rw[ap5,this,apr,aoj hj,aoh,aoj hj];rfl
theorem aj5{l m:List ByteArray}{k:Nat}(hl:k<l.length)(hm:k<m.length)(h:l.take k=m.take k)(hx:l.getD k emp=m.getD k emp):l.take (k+1)=m.take (k+1):=by
 rw[aon hl,aon hm,h];rw[aoh,aoh,aoj hl,aoj hm]at hx;simp at hx;rw[hx]
theorem aj6(v v2:Value)(l m:List ByteArray)(hl6:l.length<=1000000)(w:World)(h:StrsW w v l)(h2:StrsW w v2 m):
  Calls prog 19 #[v,v2] w (a4A (decide (l=m)) w):=by
 obtain⟨a,cap,rfl,h⟩:=h;obtain⟨a2,cap2,rfl,h2⟩:=h2;obtain⟨R,hR⟩:∃R,R=decide (l=m):=⟨_,rfl⟩
 have HR:=hid hR;rw[<-hR];clear hR;by_cases hlen:l.length=m.length
 ·have HC1:=hid (fun k (hk:k<l.length)=>(h om));have HC2:=hid (fun k (hk:k<m.length)=>(h2 om));have HE:=hid hlen;rw[hlen];obtain⟨n,hn⟩:∃n,n=m.length:=⟨_,rfl⟩
  have HN:=hid hn;rw[<-hn];have hn6:n<=1000000:=om;clear h h2 hlen hn;go_enter func19,ntmps19;go_wp2;go_loopw [5] (fun i wr=>∃k:Nat,k<=n/\i= .int .i64 k/\Hid (l.take k=m.take k)/\Below w.heap.size w wr) (fun i _=>n-(intOf i).toNat)
  case atStart=>exact⟨0,aot _,rfl,hid rfl,aoi _ _⟩
  case round=>
   obtain⟨k,hk,rfl,ht,hb⟩:=hrel;by_cases hlt:k<n
   ·obtain⟨b,off,rfl,hc⟩:=HC1.out k (by rw[HE.out,<-HN.out];exact hlt);obtain⟨b2,off2,rfl,hc2⟩:=HC2.out k (by rw[<-HN.out];exact hlt);have c1:=keep_cell hb (hc k (by rw[HE.out,<-HN.out];exact hlt));have c2:=keep_cell hb (hc2 k (by rw[<-HN.out];exact hlt));have HT:=hid (fun hx=>aj5 (l:=l) (m:=m) (k:=k) (by rw[HE.out,<-HN.out];exact hlt) (by rw[<-HN.out];exact hlt) ht.out hx)
    have HX:=hid (fun(hx:l.getD k emp≠m.getD k emp)=>show R=false by
     rw[HR.out,decide_eq_false];rintro rfl;exact hx rfl)
    have HB:=hid hb;clear hc hc2 hb;generalize l.getD k emp=x at *;generalize m.getD k emp=y at *;by_cases hxy:x=y
    ·subst hxy;have HTT:=hid (HT.out rfl);go_wp2;go_quiet (fail)
     go_wp2;go_roundw
     case rel=>exact⟨k+1,om,by go_num,HTT,a0q HB.out _⟩
     case measure=>simp[intOf];omega
    have z0:=ba_lne hxy;have HXX:=hid (HX.out hxy);clear hxy;go_wp2;go_quiet (fail)
    go_wp2;go_ret;rw[HXX.out];exact⟨rfl,a0q HB.out _⟩
   have e:k=n:=om
   have HXX:Hid (R=true):=hid (by
    have h9:=ht.out;rw[e,HN.out]at h9;rw[aoK,<-HE.out,aoK]at h9;rw[HR.out,h9,decide_eq_true rfl])
   clear e;go_wp2;go_ret;rw[HXX.out];exact⟨rfl,hb⟩
 have HXX:Hid (R=false):=hid (by rw[HR.out,decide_eq_false];rintro rfl;exact hlen rfl);have z0:¬(l.length:Int)=(m.length:Int):=om;generalize l.length=n1 at *;generalize m.length=n2 at *;clear h h2;go_enter func19,ntmps19;go_wp2;go_ret;rw[HXX.out];exact⟨rfl,aoi _ _⟩
def a8a(b:a00)(line:ByteArray):ByteArray×Int:=match a08 line with
 |some (.asked 0 names _)=>a0B a3d names (a0e (a06 b))
 |_=>(emp,0)
def saneL:List ByteArray:=[⟨#[48,32,112,117,116,32,97,32,120]⟩,⟨#[49,32,112,117,116,32,97,32,121]⟩,⟨#[48,32,106,111,105,110,32,49]⟩,⟨#[48,32,116,101,120,116,32,97]⟩]
theorem aj7:(a2O a8a saneL 4).1=[⟨#[120]⟩,⟨#[121]⟩,⟨#[50]⟩,⟨#[121]⟩]:=ot
theorem akZ:∀k,k<4->Cmd.askO (a08 (a1q (saneL.getD k emp)))=true->a08 (a1q (saneL.getD k emp))=some (.asked 0 [⟨#[97]⟩] []):=by
 intro k hk h;rcases (show k=0\/k=1\/k=2\/k=3 by omega)with rfl|rfl|rfl|rfl
 ·exact absurd h (by rw[show Cmd.askO (a08 (a1q (saneL.getD 0 emp)))=false by kernel_rfl];decide)
 ·exact absurd h (by rw[show Cmd.askO (a08 (a1q (saneL.getD 1 emp)))=false by kernel_rfl];decide)
 ·exact absurd h (by rw[show Cmd.askO (a08 (a1q (saneL.getD 2 emp)))=false by kernel_rfl];decide)
 kernel_rfl
theorem agL(b:a00)(l:ByteArray):0<=(a8a b l).2/\(a8a b l).2<=1000:=by
 unfold a8a;split
 ·unfold a0B a3d;split<;>simp
 simp
theorem a8b(P n:Nat)(F:List Nat)(b:a00)(line:ByteArray)(hs:line.size<=1000000)(w:World)(h:PostAt w P F n b)(hok:a02 b)(hV:Vars w)(names:List ByteArray)(ns:List Int)(hc:a08 line=some (.asked 0 names ns))(h0:0<names.length)(hl:names.length<=1000):
  Calls prog 36 #[.pointer (some ⟨P,0,none⟩),.string line] w (a0J (a0B a3d names (a0e (a06 b))) w):=
 a5n P n F b line hs w h hok hV 0 names ns hc h0 hl a3d (enters_of func116 ot rfl) fun W base tv bv ts _ _ hrow _ hts=>by
  have hlen:=allS_len _ _ _ hts;exact aj1 W base tv bv ts hrow om om
theorem a9A(w:World)(hV:Vars w):Calls prog 16 #[] w (a4A true w):=by
 obtain⟨w1,hw1⟩:∃w1,w1=w.alloc (.cells #[.string ⟨#[48,32,112,117,116,32,97,32,120]⟩,.string ⟨#[49,32,112,117,116,32,97,32,121]⟩,.string ⟨#[48,32,106,111,105,110,32,49]⟩,.string ⟨#[48,32,116,101,120,116,32,97]⟩] 9):=⟨_,rfl⟩
 have hb1:Below w.heap.size w w1:=by rw[hw1];exact(aoi _ _).alloc (aof _) _
 have hc1:w1.heap[w.heap.size]? =some (.cells #[.string ⟨#[48,32,112,117,116,32,97,32,120]⟩,.string ⟨#[49,32,112,117,116,32,97,32,121]⟩,.string ⟨#[48,32,106,111,105,110,32,49]⟩,.string ⟨#[48,32,116,101,120,116,32,97]⟩] 9 (0,0)):=by rw[hw1];exact World.alloc_heap_new w _
 have hL:StrsAt w1 (.slice (some ⟨w.heap.size,0,none⟩) 4 4) saneL:=⟨_,4,rfl,by decide,om,fun _=>⟨w.heap.size,0,rfl,fun j hj=>by
  have hj4:j<4:=hj;rcases (show j=0\/j=1\/j=2\/j=3 by omega)with rfl|rfl|rfl|rfl<;>exact heap_cell hc1 rfl⟩⟩
 have HB1:=hid hb1
 have HPL:=hid (akY a8a agL _ saneL w1 hL ox (fun x hx=>by
  simp only[saneL,aov,List.not_mem_nil,or_false]at hx
  rcases hx with rfl|rfl|rfl|rfl<;>decide) (hV.below hb1) (fun k hk P n F b W hn hp hok hv hq=>by
   have h9:=akZ k hk hq
   have h8:=a8b P n F b _ (by
    have h7:=ace (saneL.getD k emp)
    have h6:(saneL.getD k emp).size<=100:=by
     have hk4:k<4:=hk;rcases (show k=0\/k=1\/k=2\/k=3 by omega)with rfl|rfl|rfl|rfl<;>decide
    omega) W hp hok hv _ _ h9 ox ox
   rw[show a8a b (a1q (saneL.getD k emp))=a0B a3d [⟨#[97]⟩] (a0e (a06 b)) by unfold a8a;rw[h9];rfl];exact h8))
 rw[show (a2O a8a saneL saneL.length).1=[⟨#[120]⟩,⟨#[121]⟩,⟨#[50]⟩,⟨#[121]⟩]from aj7]at HPL;have HW1:=hid hw1;clear hb1 hc1 hL hw1 hV;go_enter func16,ntmps16;go_wp2_with fail
 rw[<-HW1.out];refine HPL.out.mono ?_;rintro e w2 ⟨v,rfl,hown,hb2⟩;have HB2:=hid (below_trans HB1.out hb2);obtain⟨w3,hw3⟩:∃w3,w3=w2.alloc (.cells #[.string ⟨#[120]⟩,.string ⟨#[121]⟩,.string ⟨#[50]⟩,.string ⟨#[121]⟩] 9):=⟨_,rfl⟩
 have hb3:Below w2.heap.size w2 w3:=by rw[hw3];exact(aoi _ _).alloc (aof _) _
 have hc3:w3.heap[w2.heap.size]? =some (.cells #[.string ⟨#[120]⟩,.string ⟨#[121]⟩,.string ⟨#[50]⟩,.string ⟨#[121]⟩] 9 (0,0)):=by rw[hw3];exact World.alloc_heap_new w2 _
 have HSM:=hid (aj6 v (.slice (some ⟨w2.heap.size,0,none⟩) 4 4) [⟨#[120]⟩,⟨#[121]⟩,⟨#[50]⟩,⟨#[121]⟩] [⟨#[120]⟩,⟨#[121]⟩,⟨#[50]⟩,⟨#[121]⟩] ox w3 ((aj4 hown).below hb3) ⟨_,4,rfl,fun _=>⟨w2.heap.size,0,rfl,fun j hj=>by
  have hj4:j<4:=hj;rcases (show j=0\/j=1\/j=2\/j=3 by omega)with rfl|rfl|rfl|rfl<;>exact heap_cell hc3 rfl⟩⟩)
 rw[decide_eq_true rfl]at HSM;have HB3:=hid (below_trans HB2.out hb3);have HW3:=hid hw3;clear hown hb2 hb3 hc3 hw3;go_wp2_with fail
 rw[<-HW3.out];refine HSM.out.mono ?_;rintro e w4 ⟨rfl,hb4⟩;have HB4:=hid (below_trans HB3.out hb4);clear hb4;go_wp2;go_ret;exact⟨rfl,HB4.out⟩
end Go.Proofs.YtdfkaijeppdhaaaGreatDoor
namespace Go.Proofs.YtdfkaijeppdhaaaGreatDoor
open Go.RowKit Go.Shelf
def a3e(t:Nat):Prop:=t=81\/t=96\/t=43
structure Kin(base:Nat)(w w':World):Prop where
 os:w'.os=w.os
 tape:w'.tape=w.tape
 output:w'.output=w.output
 size:w.heap.size<=w'.heap.size
 block:∀k,k<w.heap.size->w'.heap[k]? =w.heap[k]? \/base<=k/\∃cs t fr,w.heap[k]? =some (.cells cs t fr)/\a3e t
theorem Kin.refl(base:Nat)(w:World):Kin base w w:=⟨rfl,rfl,rfl,aof _,fun _ _=>.inl rfl⟩
theorem Kin.trans{base:Nat}{a b c:World}(h:Kin base a b)(k:Kin base b c):Kin base a c:=
 ⟨k.os.trans h.os,k.tape.trans h.tape,k.output.trans h.output,aor h.size k.size,fun i hi=>by
  rcases h.block i hi with h1|h1
  ·rcases k.block i (aox hi h.size)with h2|⟨h2,cs,t,fr,h3,h4⟩
   ·exact .inl (h2.trans h1)
   exact .inr ⟨h2,cs,t,fr,h1.symm.trans h3,h4⟩
  exact .inr h1⟩
theorem Kin.of_off{base:Nat}{w w':World}{P n:Nat}{F:List Nat}{b:a00}(h:PostAt w P F n b)(hF:∀k∈F,base<=k)(ho:Off F w w'):Kin base w w':=
 ⟨ho.os,ho.tape,ho.output,ho.size,fun k hk=>by
  by_cases hm:k∈F
  ·obtain⟨cs,t,fr,h1,h2⟩:=h.types hm;exact .inr ⟨hF k hm,cs,t,fr,h1,h2⟩
  exact .inl (ho.block k hk hm)⟩
theorem Kin.below{base:Nat}{w w':World}(h:Kin base w w')(hb:base<=w.heap.size):Below base w w':=
 ⟨h.os,h.tape,h.output,h.size,fun k hk=>(h.block k (aox hk hb)).resolve_right fun h1=>om⟩
theorem Kin.keep{base:Nat}{w w':World}(h:Kin base w w'){k:Nat}{cs:Array Value}{t:TypeId}{fr:Nat×Nat}(hk:w.heap[k]? =some (.cells cs t fr))(ht:¬a3e t):w'.heap[k]? =some (.cells cs t fr):=by
 rcases h.block k (aog.1 hk).1 with h1|⟨_,cs',t',fr',h1,h2⟩
 ·exact h1.trans hk
 rw[hk]at h1;simp only[Option.some.injEq,Obj.cells.injEq]at h1;obtain⟨_,rfl,_⟩:=h1;exact absurd h2 ht
def upN{α:Type}(f:Nat->α)(i:Nat)(v:α):Nat->α:=fun j=>if j=i then v else f j
theorem a0f{α:Type}(f:Nat->α)(i:Nat)(v:α):upN f i v i=v:=by simp[upN]
theorem a0c{α:Type}(f:Nat->α){i j:Nat}(v:α)(h:j≠i):upN f i v j=f j:=by simp[upN,h]
section
variable{base:Nat}{w:World}{m:Nat}{P n:Nat->Nat}{b:Nat->a00}
def aat(b:a00):Value:=.agg #[.int .i64 ((b 0).length:Int),.int .i64 ((b 1).length:Int),.int .i64 ((b 2).length:Int),.int .i64 ((b 3).length:Int)]
end
abbrev PB:=Nat×Nat×a00
open Go
def a3l(s:List (List UInt8)×List UInt8)(b:UInt8):List (List UInt8)×List UInt8:=if b==10 then (s.1++[s.2],[])else (s.1,s.2++[b])
def a1D(l:List UInt8):List (List UInt8)×List UInt8:=l.foldl a3l ([],[])
theorem a97(l:List UInt8)(b:UInt8):a1D (l++[b])=a3l (a1D l) b:=by unfold a1D;rw[apl];rfl
theorem adO:∀(x:List UInt8) (s:List (List UInt8)×List UInt8),(10:UInt8)∉x->x.foldl a3l s=(s.1,s.2++x)
 |[],s,_=>by simp
 | b::x,s,h=>by
  have hb:(b==10)=false:=by
   rw[beq_eq_false_iff_ne];rintro rfl;simp at h
  rw[apv,show a3l s b=(s.1,s.2++[b]) by simp[a3l,hb],adO x _ (fun hm=>h (by simp[hm]))];simp
theorem aav:∀(l:List Ent) (a:List (List UInt8)),(∀e∈l,a3E (a0b e)=true)->(a0Q l).foldl a3l (a,[])=(a++l.map a2M,[])
 |[],a,_=>by simp[a0Q]
 | e::l,a,h=>by
  show (a3G e++a0Q l).foldl a3l (a,[])=_
  rw[adn,aoT,apl,adO _ _ (ado (h e oz)),apl,apv,List.foldl_nil,
   show a3l (a,[]++a2M e) 10=(a++[a2M e],[]) by simp[a3l],aav l _ (fun x hx=>h x (by simp[hx]))]
  simp
theorem afa{l:List Ent}(h:∀e∈l,a3E (a0b e)=true):a1D (a0Q l)=(l.map a2M,[]):=by
 have:=aav l [] h;simpa [a1D]using this
def a32(b:a00)(l:List UInt8):Option Ent:=
 let c1:=a09 l
 let c2:=a09 c1.2.1
 let c3:=a09 c2.2.1
 match a0A c1.1 1,a0A c2.1 2,a0A c3.1 7 with
 |some p,some n,some k=>
  if c3.2.2=true/\p<=3/\n=(b p).length+1/\n<=60/\1<=k/\k<=1000000/\a0n (bsB c3.2.1)=true/\(1<n->a0o (b p)<k)then some ((p:Int),(n:Int),(k:Int),bsB c3.2.1)else none
 |_,_,_=>none
def a1x:a00->List (List UInt8)->Option a00
 |b,[]=>some b
 |b,x::l=>match a32 b x with
  |none=>none
  |some e=>a1x (a0H b (a07 e).toNat e) l
def a2P(s:ByteArray):Option a00:=match a1x a1G (a1D s.data.toList).1 with
 |some b=>if a0z b=s then some b else none
 |none=>none
theorem a6q:∀(l:List (List UInt8)) (x:List UInt8) (b:a00),a1x b (l++[x])=match a1x b l with
  |none=>none
  |some c=>match a32 c x with
   |none=>none
   |some e=>some (a0H c (a07 e).toNat e)
 |[],x,b=>by
  simp only[aoM,a1x]
 |y::l,x,b=>by
  rw[aoA,a1x,a1x];cases a32 b y with
  |none=>rfl
  |some e=>exact a6q l x _
theorem afb{b:a00}{l r:List (List UInt8)}(h:a1x b l=none):a1x b (l++r)=none:=by
 induction l generalizing b with
 |nil=>cases h
 |cons y l ih=>
  rw[a1x]at h;rw[aoA,a1x];cases hy:a32 b y with
  |none=>rfl
  |some e=>rw[hy]at h;exact ih h
theorem a7G{b:a00}{l:List UInt8}{e:Ent}(h:a32 b l=some e):follows b e=true:=by
 unfold a32 at h;simp only at h;split at h
 ·rename_i p n k _ _ _
  split at h
  ·rename_i hc
   obtain⟨_,h1,h2,h3,h4,h5,h6,h7⟩:=hc;simp only[Option.some.injEq]at h;subst h;rw[a1B];have ep:a07 ((p:Int),(n:Int),(k:Int),bsB (a09 (a09 (a09 l).2.1).2.1).2.1)=(p:Int):=rfl;have en:a0r ((p:Int),(n:Int),(k:Int),bsB (a09 (a09 (a09 l).2.1).2.1).2.1)=(n:Int):=rfl;have ek:a0a ((p:Int),(n:Int),(k:Int),bsB (a09 (a09 (a09 l).2.1).2.1).2.1)=(k:Int):=rfl;rw[ep,en,ek,aoY];refine⟨om,om,om,om,h6,om,om,?_⟩;by_cases h0:(b p).length=0
   ·exact .inl h0
   exact .inr (h7 om)
  cases h
 cases h
theorem ach:∀(l:List (List UInt8)) {b c:a00},a02 b->a1x b l=some c->a02 c
 |[],b,c,hb,h=>by simp only[a1x,Option.some.injEq]at h;subst h;exact hb
 |x::l,b,c,hb,h=>by
  unfold a1x at h;split at h
  ·cases h
  rename_i e he
  exact ach l (abq (e:=e) hb (by unfold a3p;rw[if_pos (a7G he)])) h
theorem agM{s:ByteArray}{b:a00}(h:a2P s=some b):a02 b/\a0z b=s:=by
 unfold a2P at h;split at h
 ·rename_i b1 h1
  split at h
  ·rename_i ht
   simp only[Option.some.injEq]at h;subst h;exact⟨ach _ a4b h1,ht⟩
  cases h
 cases h
theorem a8c:∀(x r:List UInt8),(32:UInt8)∉x->a09 (x++32::r)=(x,r,true)
 |[],r,_=>by simp[a09]
 | b::x,r,h=>by
  have hb:(b==32)=false:=by
   rw[beq_eq_false_iff_ne];rintro rfl;simp at h
  rw[aoA,a09,hb,a8c x r (fun hm=>h (by simp[hm]))];simp
theorem a8d{n:Int}{k:Nat}(h0:0<=n)(h1:n<10^(k+1)):a0A (Lib.itoa n) (k+1)=some n.toNat:=by
 obtain⟨u,rfl⟩:=aoH h0;have hi:Lib.itoa (u:Int)=Lib.decDigits u:=by unfold Lib.itoa;rw[if_neg om,aoY]
 rw[hi,abt (by exact_mod_cast h1)];simp
theorem al0{b:a00}{e:Ent}(h:follows b e=true)(hn:a0r e<=60):a32 b (a2M e)=some e:=by
 rw[a1B]at h;obtain⟨h0,h1,h2,h3,h4,h5,h6,h7⟩:=h;unfold a32 a2M;simp only[a8c _ _ (a4X _)];rw[a8d (k:=0) h0 om,a8d (k:=1) om om,a8d (k:=6) om om];simp only;rw[if_pos]
 ·rw[a3O,apF h0,apF om,apF om];rfl
 rw[a3O];refine⟨trivial,om,om,om,om,om,h4,fun hl=>?_⟩;rcases h7 with h7|h7<;>omega
theorem aaw:∀(l:List Ent) (b d:a00),a4W b l=some d->(∀e∈l,a0r e<=60)->a1x b (l.map a2M)=some d
 |[],b,d,h,_=>by simpa [a4W,a1x]using h
 |e::l,b,d,h,hn=>by
  unfold a4W a3p at h;rw[aoJ,a1x];by_cases hf:follows b e=true
  ·rw[if_pos hf]at h;rw[al0 hf (hn e oz)];exact aaw l _ d h (fun x hx=>hn x (by simp[hx]))
  rw[if_neg hf]at h;cases h
theorem agN{b:a00}(hb:a02 b):∃d,a2P (a0z b)=some d/\BookEq d b:=by
 obtain⟨d,h1,h2⟩:=a7S hb (a06 b) [] a1G rfl (fun i hi=>rfl);refine⟨d,?_,h2⟩;unfold a2P;rw[show (a0z b).data.toList=a0Q (a06 b)from rfl,afa (fun e he=>(a0y hb he).2.2.2),aaw _ _ d h1 (fun e he=>(a0y hb he).2.1.2)];simp only;rw[h2.text,if_pos rfl]
theorem aj8(s:ByteArray):(a2L s=none/\a2P s=none)\/∃b c,a2L s=some b/\a2P s=some c/\a02 b/\a02 c/\BookEq b c:=by
 cases h1:a2L s with
 |some b=>
  obtain⟨hb,rfl⟩:=a6T h1;obtain⟨d,h2,h3⟩:=agN hb;exact .inr ⟨b,d,rfl,h2,hb,h3.symm.ok hb,h3.symm⟩
 | none=>
  cases h2:a2P s with
  |none=>exact .inl ⟨rfl,rfl⟩
  |some c=>
   obtain⟨hc,rfl⟩:=agM h2;obtain⟨d,h3,_⟩:=ail hc;rw[h1]at h3;cases h3
def a67(nx:Nat->Nat)(i k:Nat):Nat->Nat:=fun j=>if j=i then k else nx j
theorem a33(nx:Nat->Nat)(i k:Nat):a67 nx i k i=k:=by simp[a67]
theorem a0U(nx:Nat->Nat){i j:Nat}(k:Nat)(h:j≠i):a67 nx i k j=nx j:=by simp[a67,h]
structure Mg(b:a00)(nx:Nat->Nat)(out:List Ent):Prop where
 le:∀i,i<4->nx i<=(b i).length
 asc:Asc out
 perm:out.Perm ((b 0).take (nx 0)++((b 1).take (nx 1)++((b 2).take (nx 2)++(b 3).take (nx 3))))
 low:∀x∈out,∀i,i<4->∀j (h:j<(b i).length),nx i<=j->eLt x (b i)[j]
theorem Mg.start(b:a00):Mg b (fun _=>0) []:=⟨fun _ _=>aot _,List.Pairwise.nil,by simp,fun x hx=>by simp at hx⟩
theorem Mg.len{b:a00}{nx:Nat->Nat}{out:List Ent}(h:Mg b nx out):out.length=nx 0+nx 1+nx 2+nx 3:=by
 rw[h.perm.length_eq];have h0:=h.le 0 om;have h1:=h.le 1 om;have h2:=h.le 2 om;have h3:=h.le 3 om;simp only[aol,aoy];omega
theorem aj9(l:List Ent)(k:Nat)(h:k<l.length):l.take (k+1)=l.take k++[l[k]]:=aon h
theorem al1{A B C D:List Ent}(e:Ent):(A++(B++(C++D))++[e]).Perm (A++[e]++(B++(C++D))):=by
 rw[aoT A,aoT A];exact List.Perm.append_left _ List.perm_append_comm
theorem Mg.step{b:a00}(hb:a02 b){nx:Nat->Nat}{out:List Ent}(h:Mg b nx out){i:Nat}(hi:i<4)(hlt:nx i<(b i).length)
  (hmin:∀j,j<4->j≠i->∀(hj:nx j<(b j).length),a0a (b i)[nx i]<a0a (b j)[nx j]\/(a0a (b i)[nx i]=a0a (b j)[nx j]/\i<j)):
  Mg b (a67 nx i (nx i+1)) (out++[(b i)[nx i]]):=by
 have hp:∀j,j<4->∀k (hk:k<(b j).length),a07 (b j)[k]=(j:Int):=fun j hj k hk=>((hb j hj).own k hk).1
 have hasc:∀j,j<4->∀x y (hx:x<(b j).length) (hy:y<(b j).length),x<y->a0a (b j)[x]<a0a (b j)[y]:=fun j hj x y hx hy hxy=>apo.1 (hb j hj).asc x y hx hy hxy
 have hhead:∀j,j<4->∀k (hk:k<(b j).length),nx j<=k->(j≠i\/nx i<k)->eLt (b i)[nx i] (b j)[k]:=fun j hj k hk hle hor=>by
  by_cases e:j=i
  ·subst e;have:=hasc j hj (nx j) k hlt hk om;exact .inl this
  have h1:=hmin j hj e om;have p1:=hp i hi (nx i) hlt;have p2:=hp j hj k hk;unfold eLt;by_cases hk2:nx j=k
  ·subst hk2;rcases h1 with h1|⟨h1,h2⟩
   ·exact .inl h1
   exact .inr ⟨h1,by rw[p1,p2];omega⟩
  have:=hasc j hj (nx j) k om hk om;left;rcases h1 with h1|⟨h1,h2⟩<;>omega
 refine⟨fun j hj=>?_,?_,?_,?_⟩
 ·by_cases e:j=i
  ·subst e;rw[a33];exact hlt
  rw[a0U _ _ e];exact h.le j hj
 ·refine apL.2 ⟨h.asc,List.pairwise_singleton _ _,fun x hx y hy=>?_⟩;have:y=(b i)[nx i]:=by simpa using hy
  subst this;exact h.low x hx i hi (nx i) hlt (aof _)
 ·refine(h.perm.append_right _).trans ?_
  have hg:=aj9 (b i) (nx i) hlt;rcases (show i=0\/i=1\/i=2\/i=3 by omega)with rfl|rfl|rfl|rfl
  ·rw[a33,a0U _ _ om,a0U _ _ om,a0U _ _ om,hg];exact al1 _
  ·rw[a33,a0U _ _ om,a0U _ _ om,a0U _ _ om,hg];simp only[aoT];refine List.Perm.append_left _ (List.Perm.append_left _ ?_);rw[<-aoT];exact List.perm_append_comm
  ·rw[a33,a0U _ _ om,a0U _ _ om,a0U _ _ om,hg];simp only[aoT];exact List.Perm.append_left _ (List.Perm.append_left _ (List.Perm.append_left _ List.perm_append_comm))
  rw[a33,a0U _ _ om,a0U _ _ om,a0U _ _ om,hg];simp only[aoT];exact List.Perm.refl _
 intro x hx j hj k hk hle
 have hnx:nx j<=k:=by
  by_cases e:j=i
  ·subst e;rw[a33]at hle;omega
  rw[a0U _ _ e]at hle;exact hle
 rcases aoI.1 hx with hx|hx
 ·exact h.low x hx j hj k hk hnx
 have:x=(b i)[nx i]:=by simpa using hx
 subst this;refine hhead j hj k hk hnx ?_;by_cases e:j=i
 ·subst e;rw[a33]at hle;exact .inr om
 exact .inl e
theorem Mg.done{b:a00}{nx:Nat->Nat}{out:List Ent}(h:Mg b nx out)(hall:∀i,i<4->(b i).length<=nx i):out=a06 b:=by
 refine aeV h.asc (h.perm.trans (List.Perm.trans ?_ (a5Y b).symm));rw[aou (hall 0 om),aou (hall 1 om),aou (hall 2 om),aou (hall 3 om)]
end Go.Proofs.YtdfkaijeppdhaaaGreatDoor
