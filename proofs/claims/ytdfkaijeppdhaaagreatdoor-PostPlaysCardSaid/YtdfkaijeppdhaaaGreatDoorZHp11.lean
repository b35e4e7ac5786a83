/- Texts of this claim, laid together: Ez, Fc, Ff, Fi, Fk, TdData, TdMath. -/
import Derived.Test.YtdfkaijeppdhaaaGreatDoorZHp10
import Derived.Laws.StructEq
import Derived.Test.YtdfkaijeppdhaaaGreatDoorZHp05
import Derived.Test.YtdfkaijeppdhaaaGreatDoorZHp09
import Derived.Test.YtdfkaijeppdhaaaGreatDoorZHp04
import Derived.Shelf.Strings.BuilderK
import Derived.Test.YtdfkaijeppdhaaaGreatDoorZHp07
import Derived.WalkKit
import Derived.WalkSpells
import Derived.WalkLawsBesides
import Derived.Lib.Hide

set_option maxRecDepth 100000
set_option maxHeartbeats 8000000
set_option linter.unusedSimpArgs false
set_option linter.unusedVariables false

namespace Go.Proofs.YtdfkaijeppdhaaaGreatDoor
open Go.RowKit Go.Shelf Go.Proofs
def eqE(x y:Ent):Bool:=x.1==y.1&&(x.2.1==y.2.1&&(x.2.2.1==y.2.2.1&&x.2.2.2.toList==y.2.2.2.toList))
theorem a98(x y:Ent):eqE x y=true↔x=y:=by
 obtain⟨a,b,c,d⟩:=x;obtain⟨a',b',c',d'⟩:=y;unfold eqE;simp only[Bool.and_eq_true,beq_iff_eq,Prod.mk.injEq];refine and_congr_right fun _=>and_congr_right fun _=>and_congr_right fun _=>⟨fun h=>?_,fun h=>by rw[h]⟩
 rw[ba_list,ba_list]at h;exact ba_ext h
theorem neqE:NeqAt Tryz.prog 43 (fun x:Ent=>.agg (entC x).toArray) eqE:=by
 refine⟨fun x y w=>?_,GuardAt.agg _ (by kernel_rfl)⟩;have u3:=Tryz.underlying3;have a3:=Tryz.isAgg3;have z3:=Tryz.sizeOf3;have u9:=Tryz.underlying9;have a9:=Tryz.isAgg9;have z9:=Tryz.sizeOf9;have hS:Tryz.prog.underlying 43=some (.struct (Tryz.prog.fieldsOf 43)):=by kernel_rfl
 have hp:Tryz.prog.stoodInHeld 43=false:=by kernel_rfl
 obtain⟨a,b,c,d⟩:=x;obtain⟨a',b',c',d'⟩:=y;simp only[entC,a04,eNum,eCnt,a05,eqE];rw[run_neq_struct,show (10000:Nat)=9999+1 from rfl,run_equalIn_agg w 9999 43 _ _ hS hp];simp only[Program.fieldsOf,Tryz.underlying43];go_simp;by_cases h1:a=a'<;>by_cases h2:b=b'<;>by_cases h3:c=c'<;>by_cases h4:d.toList=d'.toList<;>simp[h1,h2,h3,h4]
theorem a9A:∀(xs ys:List Ent),xs.length=ys.length->(Lib.allEq eqE xs ys=true↔xs=ys)
 |[],[],_=>by simp[Lib.allEq]
 |x::xs,y::ys,h=>by
  have ih:=a9A xs ys (by simpa using h);unfold Lib.allEq;rw[Bool.and_eq_true,a98,ih,List.cons.injEq]
theorem equal_any(xs ys:List Ent)(n c1 c2:Nat)(a1 a2:Option Addr)(hn:xs.length=n)(hn2:ys.length=n)(hbig:n<=1000)(w:World)(h1:EntsAt w (.slice a1 n c1) xs)(h2:EntsAt w (.slice a2 n c2) ys):
  Calls Tryz.prog 96 #[.slice a1 n c1,.slice a2 n c2] w fun e w'=>e= .returned (.bool (decide (xs=ys)))/\Below w.heap.size w w':=by
 by_cases h0:0<n
 ·obtain⟨b1,o1,k1,e1,hc1⟩:=h1.cells (by omega);obtain⟨b2,o2,k2,e2,hc2⟩:=h2.cells (by omega);simp only[Value.slice.injEq]at e1 e2;obtain⟨rfl,_,rfl⟩:=e1;obtain⟨rfl,_,rfl⟩:=e2
  have key:∀(l:List Ent) (b o:Nat),(∀j,j<l.length->w.cell? ⟨b,o+j * 4,none⟩=some (.int .i64 (a04 (l.getD j (0,0,0,⟨#[]⟩))))/\w.cell? ⟨b,o+j * 4+1,none⟩=some (.int .i64 (eNum (l.getD j (0,0,0,⟨#[]⟩))))/\
   w.cell? ⟨b,o+j * 4+2,none⟩=some (.int .i64 (eCnt (l.getD j (0,0,0,⟨#[]⟩))))/\w.cell? ⟨b,o+j * 4+3,none⟩=some (.string (a05 (l.getD j (0,0,0,⟨#[]⟩)))))->
   ∀j,j<l.length->∀i v,(entC l[j]!)[i]? =some v->w.cell? ⟨b,o+j * 4+i,none⟩=some v:=by
   intro l b o h j hj i v hv;obtain⟨q0,q1,q2,q3⟩:=h j hj
   have he:l.getD j (0,0,0,⟨#[]⟩)=l[j]! :=by
    rw[List.getD_eq_getElem?_getD,List.getElem?_eq_getElem hj,getElem!_pos l j hj];rfl
   rw[he]at q0 q1 q2 q3;have hi:i<4:=(List.getElem?_eq_some_iff.1 hv).1
   rcases (show i=0\/i=1\/i=2\/i=3 by omega)with rfl|rfl|rfl|rfl<;>simp only[entC,List.getElem?_cons_zero,List.getElem?_cons_succ,Option.some.injEq]at hv<;>subst hv<;>assumption
  refine(AnyQ.slices_Equal Tryz.equalE 4 Tryz.isAgg43 Tryz.sizeOf43 entC (fun _=>rfl) eqE neqE b1 o1 n c1 b2 o2 n c2 xs ys w (by omega) (by omega) (by omega) (by omega) (key xs b1 o1 hc1) (key ys b2 o2 hc2)).mono ?_
  rintro e w' ⟨rfl,q,rfl⟩;refine⟨?_,a0d (Below.refl _ _) _⟩;rw[List.take_of_length_le (by omega),List.take_of_length_le (by omega)];congr 2;rw[Bool.eq_iff_iff,a9A xs ys (by omega),decide_eq_true_eq]
 have hz:n=0:=by omega
 have e1:xs=[]:=List.length_eq_zero_iff.1 (by omega);have e2:ys=[]:=List.length_eq_zero_iff.1 (by omega);subst e1 e2 hz;clear h1 h2 hn hn2;go_enter Tryz.func96,Tryz.ntmps96;go_wp2;go_loopw [13] (fun i wr=>i= .int .i64 0/\w=wr) (fun _ _=>0)
 case atStart=>exact⟨rfl,rfl⟩
 case round=>
  obtain⟨rfl,rfl⟩:=hrel;go_wp2;go_ret;exact⟨rfl,Below.refl _ _⟩
def afB(l:List Ent)(w:World)(e:Ending)(w':World):Prop:=∃v,e= .returned v/\w'.ownsRow w.heap.size 43 4 v l.length (rowE l)/\Below w.heap.size w w'
theorem a9B(v:Value)(l:List Ent)(w:World)(h:ListAt w v l)(hl:l.length<=1000):Calls Tryz.prog 97 #[v] w (afB l w):=by
 obtain⟨i0,hi0,hz0,hz1,hz2⟩:=info_parts Tryz.infoEnt;rcases h.forms with⟨rfl,rfl⟩|⟨g,cap,rfl,hc⟩
 ·refine(AnyE.slices_Clone_nil Tryz.cloneE 0 0 w).mono ?_
  rintro e w' ⟨rfl,rfl⟩;exact⟨_,rfl,World.ownsRow_nil _ _ _ _,Below.refl _ _⟩
 refine(AnyE.slices_Clone Tryz.cloneE i0 _ 4 40 hi0 hz0 hz1 hz2 rfl (by decide) Tryz.sizeOf43 g 0 l.length cap (rowE l) w h.1 (by unfold maxLen;omega) (by omega) (fun j u hj=>?_) (a2k l)).mono ?_
 ·have hjl:=(List.getElem?_eq_some_iff.1 hj).1
  rw[a0K]at hjl;rw[h.cellAt (0+j) (by omega),Nat.zero_add,hj]
 rintro e w' ⟨v',rfl,ho,_,hb⟩;exact⟨v',rfl,ho,hb⟩
end Go.Proofs.YtdfkaijeppdhaaaGreatDoor
namespace Go.Proofs.YtdfkaijeppdhaaaGreatDoor
open Go.RowKit Go.Shelf
theorem ahy{l m:List Ent}(h:m.length<l.length):fitL l m=decide (m=l.take m.length):=by
 unfold fitL;rw[Bool.eq_iff_iff,Bool.or_eq_true,decide_eq_true_eq,decide_eq_true_eq,decide_eq_true_eq];constructor
 ·rintro(h1|h1)
  ·have:=h1.length_le;omega
  exact List.prefix_iff_eq_take.1 h1
 intro h1;exact .inr (List.prefix_iff_eq_take.2 h1)
theorem afC{l m:List Ent}(h:¬m.length<l.length):fitL l m=decide (l=m.take l.length):=by
 unfold fitL;rw[Bool.eq_iff_iff,Bool.or_eq_true,decide_eq_true_eq,decide_eq_true_eq,decide_eq_true_eq];constructor
 ·rintro(h1|h1)
  ·exact List.prefix_iff_eq_take.1 h1
  have h2:=h1.length_le;have h3:=h1.eq_of_length (by omega);rw[h3,List.take_length]
 intro h1;exact .inl (List.prefix_iff_eq_take.2 h1)
theorem ListAt.ents_take{w:World}{a:Option Addr}{n cap k:Nat}{l:List Ent}(h:ListAt w (.slice a n cap) l)(hn:l.length=n)(hk:k<=n)(hbig:n<=1000):EntsAt w (.slice a k cap) (l.take k):=by
 have hlen:(l.take k).length=k:=by rw[List.length_take];omega
 refine⟨a,cap,by rw[hlen],by omega,fun h0=>?_⟩;rw[hlen]at h0;rcases h.2 with⟨h1,h2⟩|⟨g,cap',cur,h1,hrest⟩
 ·omega
 simp only[Value.slice.injEq]at h1;obtain⟨rfl,_,rfl⟩:=h1;refine⟨g,0,rfl,fun j c x hc hx=>?_⟩;have hjl:=(List.getElem?_eq_some_iff.1 hx).1
 rw[a0K,hlen]at hjl;have hsp:rowE l=rowE (l.take k)++rowE (l.drop k):=by rw[<-a1s,List.take_append_drop]
 have h9:w.ownsRow 0 43 4 (.slice (some ⟨g,0,none⟩) n cap) n (rowE l):=by unfold ListAt at h;rw[hn]at h;exact h
 have hr:=h9.cellAt (j * 4+c) (by omega);rw[Nat.zero_add,hr,hsp,List.getElem?_append_left (by rw[a0K,hlen];exact hjl),hx]
theorem ListAt.cap_le{w:World}{a:Option Addr}{n cap:Nat}{l:List Ent}(h:ListAt w (.slice a n cap) l)(hn:l.length=n):n<=cap:=by
 rcases h.forms with⟨h9,rfl⟩|⟨g,c,h9,h8⟩
 ·simp only[Value.slice.injEq]at h9;simp at hn;omega
 simp only[Value.slice.injEq]at h9;omega
structure NewBook(w:World)(lo:Nat)(us:Nat->Value)(c:Book):Prop where
 list:∀i,i<4->ListAt w (us i) (c i)
 low:∀i,i<4->∀g,(us i).ownBlock=some g->lo<=g
 apart:∀i j,i<4->j<4->i≠j->∀g,(us i).ownBlock=some g->(us j).ownBlock≠some g
theorem NewBook.below{w w':World}{lo:Nat}{us:Nat->Value}{c:Book}(h:NewBook w lo us c)(hb:Below w.heap.size w w'):NewBook w' lo us c:=
 ⟨fun i hi=>(h.list i hi).keep fun k hk=>hb.block k ((h.list i hi).lt hk),h.low,h.apart⟩
def aggV(us:Nat->Value):Value:=.agg #[us 0,us 1,us 2,us 3]
def aaU(b1 b2:Book)(w:World)(e:Ending)(w':World):Prop:=
 (match a3t b1 b2 with
  |some c=>∃us,e= .returned (.tuple #[aggV us,.bool true])/\NewBook w' w.heap.size us c
  |none=>e= .returned (.tuple #[aggV (fun _=>.slice none 0 0),.bool false]))/\Below w.heap.size w w'
theorem aaV{b1 b2:Book}(h:∀i,i<4->fitL (b1 i) (b2 i)=true):a3t b1 b2=some (a6O b1 b2):=by
 unfold a3t;rw[h 0 (by omega),h 1 (by omega),h 2 (by omega),h 3 (by omega)];rfl
theorem aaW{b1 b2:Book}{k:Nat}(hk:k<4)(h:fitL (b1 k) (b2 k)=false):a3t b1 b2=none:=by
 unfold a3t;rw[if_neg];simp only[Bool.and_eq_true];rintro⟨⟨⟨h0,h1⟩,h2⟩,h3⟩;rcases (show k=0\/k=1\/k=2\/k=3 by omega)with rfl|rfl|rfl|rfl<;>simp_all
structure Outs(b1 b2:Book)(B R:Nat)(k:Nat)(us:Nat->Value)(w wr:World):Prop where
 cells:wr.heap[B]? =some (.cells #[us 0,us 1,us 2,us 3] 96 (0,0))
 res:wr.heap[R]? =some (.cells #[.slice none 0 0,.slice none 0 0,.slice none 0 0,.slice none 0 0] 96 (0,0))
 done:∀i,i<k->wr.ownsRow (B+1) 43 4 (us i) (a18 (b1 i) (b2 i)).length (rowE (a18 (b1 i) (b2 i)))
 todo:∀i,k<=i->us i= .slice none 0 0
 apart:∀i j,i<4->j<4->i≠j->∀g,(us i).ownBlock=some g->(us j).ownBlock≠some g
 below:Below w.heap.size w wr
 fits:∀i,i<k->fitL (b1 i) (b2 i)=true
theorem Outs.below'{b1 b2:Book}{B R k:Nat}{us:Nat->Value}{w wr w':World}(h:Outs b1 b2 B R k us w wr)(hb:Below wr.heap.size wr w'):Outs b1 b2 B R k us w w':=
 ⟨(hb.block B (Array.getElem?_eq_some_iff.1 h.cells).1).trans h.cells,(hb.block R (Array.getElem?_eq_some_iff.1 h.res).1).trans h.res,fun i hi=>own_below (h.done i hi) hb,h.todo,h.apart,h.below.trans (hb.mono h.below.size),h.fits⟩
theorem Outs.next{b1 b2:Book}{B R k:Nat}{us:Nat->Value}{w wr w':World}{v:Value}(h:Outs b1 b2 B R k us w wr)(hk:k<4)(hB:w.heap.size<=B)(hRB:R≠B)(hsz:B+1<=wr.heap.size)(_hR:R<=B)(hf:fitL (b1 k) (b2 k)=true)
  (hv:w'.ownsRow wr.heap.size 43 4 v (a18 (b1 k) (b2 k)).length (rowE (a18 (b1 k) (b2 k))))(hb:Below wr.heap.size wr w'):Outs b1 b2 B R (k+1) (a19 us k v) w (w'.setCell ⟨B,k,none⟩ v):=by
 have h':=h.below' hb;have hset:∀j,j≠B->(w'.setCell ⟨B,k,none⟩ v).heap[j]? =w'.heap[j]? :=fun j hj=>Below.heap_setCell _ _ _ j hj
 refine⟨?_,(hset R hRB).trans h'.res,fun i hi=>?_,fun i hi=>?_,fun i j hi hj hij g hg hg2=>?_,h'.below.setCell (p:=⟨B,k,none⟩) hB v,fun i hi=>?_⟩
 ·rw[a4c h'.cells];unfold a19;rcases (show k=0\/k=1\/k=2\/k=3 by omega)with rfl|rfl|rfl|rfl<;>simp
 ·by_cases e:i=k
  ·subst e;rw[a11];exact a2j (a1z hv hsz) fun j hj=>hset j (by omega)
  rw[a0w _ _ e];exact a2j (h'.done i (by omega)) fun j hj=>hset j (by omega)
 ·rw[a0w _ _ (by omega)];exact h.todo i (by omega)
 ·have hlow:∀x,x≠k->∀g,(us x).ownBlock=some g->g<wr.heap.size:=fun x hx g hg=>by
   by_cases hxk:x<k
   ·exact((h.done x hxk).lt g hg).2
   rw[h.todo x (by omega)]at hg;simp[Value.ownBlock]at hg
  by_cases ei:i=k
  ·subst ei;rw[a11]at hg;rw[a0w _ _ (Ne.symm hij)]at hg2;have h1:=(hv.lt g hg).1
   have h2:=hlow j (Ne.symm hij) g hg2;omega
  rw[a0w _ _ ei]at hg;by_cases ej:j=k
  ·subst ej;rw[a11]at hg2;have h1:=(hv.lt g hg2).1
   have h2:=hlow i ei g hg;omega
  rw[a0w _ _ ej]at hg2;exact h.apart i j hi hj hij g hg hg2
 by_cases e:i=k
 ·subst e;exact hf
 exact h.fits i (by omega)
theorem adH(K1 K2:Nat)(vs1 vs2:Nat->Value)(b1 b2:Book)(w:World)(h1:BookIs w K1 vs1 b1)(h2:BookIs w K2 vs2 b2)(hl1:∀i,i<4->(b1 i).length<=60)(hl2:∀i,i<4->(b2 i).length<=60):
  Calls Tryz.prog 65 #[.pointer (some ⟨K1,0,none⟩),.pointer (some ⟨K2,0,none⟩)] w (aaU b1 b2 w):=by
 obtain⟨w2,hw2⟩:∃w2,w2=(w.alloc (.cells #[.slice none 0 0,.slice none 0 0,.slice none 0 0,.slice none 0 0] 96)).alloc (.cells #[.slice none 0 0,.slice none 0 0,.slice none 0 0,.slice none 0 0] 96):=⟨_,rfl⟩
 have HO2:Hid (Outs b1 b2 (w.heap.size+1) w.heap.size 0 (fun _=>.slice none 0 0) w w2):=Lib.hid (by
  have hb:Below w.heap.size w w2:=by rw[hw2];exact((Below.refl _ w).alloc (Nat.le_refl _) _).alloc (by simp) _
  refine⟨?_,?_,fun i hi=>by omega,fun i hi=>rfl,fun i j hi hj hij g hg=>by simp[Value.ownBlock]at hg,hb,fun i hi=>by omega⟩
  ·have:=World.alloc_heap_new (w.alloc (.cells #[.slice none 0 0,.slice none 0 0,.slice none 0 0,.slice none 0 0] 96)) (.cells #[.slice none 0 0,.slice none 0 0,.slice none 0 0,.slice none 0 0] 96);rw[World.size_alloc]at this;rw[hw2];exact this
  rw[hw2];exact(Below.heap_alloc _ _ _ (by simp)).trans (World.alloc_heap_new w _))
 have hz:w.heap.size+2<=w2.heap.size:=by rw[hw2];simp
 have HW2:=Lib.hid hw2;have H1:=Lib.hid h1;have H2:=Lib.hid h2;have HL1:=Lib.hid hl1;have HL2:=Lib.hid hl2;clear hw2 h1 h2 hl1 hl2;go_enter Tryz.func65,Tryz.ntmps65;go_wp2_with fail
 rw[<-HW2.out];go_loopw [13] (fun i wr=>∃(k:Nat) (us:Nat->Value),k<=4/\i= .int .i64 k/\Hid (Outs b1 b2 (w.heap.size+1) w.heap.size k us w wr)/\w.heap.size+2<=wr.heap.size) (fun i _=>4-(intOf i).toNat)
 case atStart=>exact⟨0,_,Nat.zero_le _,rfl,HO2,hz⟩
 case round=>
  obtain⟨k,us,hk,rfl,ho,hwz⟩:=hrel;by_cases hlt:k<4
  ·have hlt2:(k:Int)<4:=by omega
   have hge:(0:Int)<=(k:Int):=by omega
   have K1r:=Lib.hid (H1.out.below ho.out.below);have K2r:=Lib.hid (H2.out.below ho.out.below);obtain⟨a1,c1,e1⟩:=K1r.out.slice hlt;obtain⟨a2,c2,e2⟩:=K2r.out.slice hlt;have q1:=K1r.out.cell hlt;have q2:=K2r.out.cell hlt;rw[e1]at q1;rw[e2]at q2;have HA1:Hid (ListAt wr (.slice a1 (b1 k).length c1) (b1 k)):=Lib.hid (by rw[<-e1];exact K1r.out.list k hlt);have HA2:Hid (ListAt wr (.slice a2 (b2 k).length c2) (b2 k)):=Lib.hid (by rw[<-e2];exact K2r.out.list k hlt);have B1:=HL1.out k hlt;have B2:=HL2.out k hlt;clear e1 e2;have HFL:=Lib.hid (fun(h:(b2 k).length<(b1 k).length)=>ahy (l:=b1 k) (m:=b2 k) h);have HFS:=Lib.hid (fun(h:¬(b2 k).length<(b1 k).length)=>afC (l:=b1 k) (m:=b2 k) h);have HJN:=Lib.hid (fun(h:fitL (b1 k) (b2 k)=false)=>aaW (b1:=b1) (b2:=b2) hlt h);have HNXT:=Lib.hid (fun(w':World) (v:Value) (hf:fitL (b1 k) (b2 k)=true) (hv:w'.ownsRow wr.heap.size 43 4 v (a18 (b1 k) (b2 k)).length (rowE (a18 (b1 k) (b2 k)))) (hb:Below wr.heap.size wr w')=>ho.out.next hlt (by omega) (by omega) (by omega) (by omega) hf hv hb);have HLG:Hid (a18 (b1 k) (b2 k)=if (b2 k).length<(b1 k).length then b1 k else b2 k):=Lib.hid rfl;generalize b1 k=l1 at *;generalize b2 k=l2 at *;obtain⟨n1,hn1⟩:∃n,n=l1.length:=⟨_,rfl⟩
   obtain⟨n2,hn2⟩:∃n,n=l2.length:=⟨_,rfl⟩
   have N1:=Lib.hid hn1;have N2:=Lib.hid hn2;rw[<-hn1]at q1 B1 HA1;rw[<-hn2]at q2 B2 HA2;clear hn1 hn2;by_cases hsw:n2<n1
   ·have HCL:Hid (n1<=c1):=Lib.hid (HA1.out.cap_le N1.out.symm);have HEQ:=Lib.hid (fun W (hW:Below wr.heap.size wr W)=>equal_any l2 (l1.take n2) n2 c2 c1 a2 a1 N2.out.symm (by rw[List.length_take,<-N1.out];omega) (by omega) W (((HA2.out.ents_take N2.out.symm (Nat.le_refl _) (by omega)).below hW) |> (fun h=>by rw[N2.out,List.take_length]at h;rw[N2.out];exact h)) ((HA1.out.ents_take N1.out.symm (by omega) (by omega)).below hW));have HFE:Hid (fitL l1 l2=decide (l2=l1.take n2)):=Lib.hid (by rw[N2.out];exact HFL.out (by rw[<-N1.out,<-N2.out];exact hsw));have HLX:Hid (a18 l1 l2=l1):=Lib.hid (by rw[HLG.out,if_pos (by rw[<-N1.out,<-N2.out];exact hsw)]);have hcap:n1<=c1:=HCL.out;have i1:(0:Int)<=(n2:Int):=by omega
    have i2:(n2:Int)<=(c1:Int):=by omega
    obtain⟨q,hq⟩:∃q,q=fitL l1 l2:=⟨_,rfl⟩
    rw[<-HFE.out,<-hq]at HEQ;have HQQ:=Lib.hid hq;clear hq;cases q with
    |false=>
     go_wp2;go_quiet (fail)
     go_wp2;go_quiet (fail)
     go_wp2_with fail
     refine(HEQ.out _ (a0d (Below.refl _ _) _)).mono ?_
     rintro e w3 ⟨rfl,hb3⟩;have HB3:=Lib.hid ((a0d (Below.refl wr.heap.size wr) _).trans hb3);have HO3:=Lib.hid (ho.out.below' HB3.out);have r0:=heap_cell (j:=0) HO3.out.res rfl;have r1:=heap_cell (j:=1) HO3.out.res rfl;have r2:=heap_cell (j:=2) HO3.out.res rfl;have r3:=heap_cell (j:=3) HO3.out.res rfl;have g0:∀j,w3.frozen? ⟨w.heap.size,j,none⟩=false:=fun j=>by have h9:=HO3.out.res;simp[World.frozen?,h9]
     have HNO:=Lib.hid (HJN.out HQQ.out.symm);clear hb3;go_wp2;refine bodyPost_ret (v:=.tuple #[aggV (fun _=>.slice none 0 0),.bool false]) (by simp[results,Tryz.results65,go_sem,aggV,r0,r1,r2,r3]) rfl ⟨?_,?_⟩
     ·rw[HNO.out]
     exact(((HO3.out.below.setCell (p:=⟨w.heap.size,0,none⟩) (Nat.le_refl _) _).setCell (p:=⟨w.heap.size,1,none⟩) (Nat.le_refl _) _).setCell (p:=⟨w.heap.size,2,none⟩) (Nat.le_refl _) _).setCell (p:=⟨w.heap.size,3,none⟩) (Nat.le_refl _) _
    | true=>
     go_wp2;go_quiet (fail)
     go_wp2;go_quiet (fail)
     go_wp2_with fail
     refine(HEQ.out _ (a0d (Below.refl _ _) _)).mono ?_
     rintro e w3 ⟨rfl,hb3⟩;have HB3:=Lib.hid ((a0d (Below.refl wr.heap.size wr) _).trans hb3);have HCO:=Lib.hid (a9B (.slice a1 n1 c1) l1 w3 (HA1.out.keep fun j hj=>HB3.out.block j (HA1.out.lt hj)) (by rw[<-N1.out];omega));clear hb3;go_wp2_with fail
     refine HCO.out.mono ?_;rintro e w4 ⟨v4,rfl,ho4,hb4⟩;have HB4:=Lib.hid (below_trans HB3.out hb4);have HN4:=Lib.hid (HNXT.out w4 v4 HQQ.out.symm (by rw[HLX.out];exact a1z ho4 HB3.out.size) HB4.out);have HO4:=Lib.hid (ho.out.below' HB4.out)
     have x0:∃u,w4.cell? ⟨w.heap.size+1,k,none⟩=some u:=by
      rcases (show k=0\/k=1\/k=2\/k=3 by omega)with rfl|rfl|rfl|rfl<;>exact⟨_,heap_cell HO4.out.cells rfl⟩
     obtain⟨u4,hu4⟩:=x0;have g0:w4.frozen? ⟨w.heap.size+1,k,none⟩=false:=by have h9:=HO4.out.cells;simp[World.frozen?,h9]
     obtain⟨va,vc,rfl⟩:=own_shape ho4;have HSZ4:Hid (w.heap.size+2<=w4.heap.size):=Lib.hid (by have:=HB4.out.size;omega);clear ho4 hb4;go_wp2;go_roundw
     case rel=>exact⟨k+1,_,by omega,by go_num,HN4,by rw[World.size_setCell];exact HSZ4.out⟩
     case measure=>simp[intOf];omega
   have HCL:Hid (n2<=c2):=Lib.hid (HA2.out.cap_le N2.out.symm);have HEQ:=Lib.hid (fun W (hW:Below wr.heap.size wr W)=>equal_any l1 (l2.take n1) n1 c1 c2 a1 a2 N1.out.symm (by rw[List.length_take,<-N2.out];omega) (by omega) W (((HA1.out.ents_take N1.out.symm (Nat.le_refl _) (by omega)).below hW) |> (fun h=>by rw[N1.out,List.take_length]at h;rw[N1.out];exact h)) ((HA2.out.ents_take N2.out.symm (by omega) (by omega)).below hW));have HFE:Hid (fitL l1 l2=decide (l1=l2.take n1)):=Lib.hid (by rw[N1.out];exact HFS.out (by rw[<-N1.out,<-N2.out];exact hsw));have HLX:Hid (a18 l1 l2=l2):=Lib.hid (by rw[HLG.out,if_neg (by rw[<-N1.out,<-N2.out];exact hsw)]);have hcap:n2<=c2:=HCL.out;have i1:(0:Int)<=(n1:Int):=by omega
   have i2:(n1:Int)<=(c2:Int):=by omega
   obtain⟨q,hq⟩:∃q,q=fitL l1 l2:=⟨_,rfl⟩
   rw[<-HFE.out,<-hq]at HEQ;have HQQ:=Lib.hid hq;clear hq;cases q with
   |false=>
    go_wp2;go_quiet (fail)
    go_wp2;go_quiet (fail)
    go_wp2_with fail
    refine(HEQ.out _ (a0d (Below.refl _ _) _)).mono ?_
    rintro e w3 ⟨rfl,hb3⟩;have HB3:=Lib.hid ((a0d (Below.refl wr.heap.size wr) _).trans hb3);have HO3:=Lib.hid (ho.out.below' HB3.out);have r0:=heap_cell (j:=0) HO3.out.res rfl;have r1:=heap_cell (j:=1) HO3.out.res rfl;have r2:=heap_cell (j:=2) HO3.out.res rfl;have r3:=heap_cell (j:=3) HO3.out.res rfl;have g0:∀j,w3.frozen? ⟨w.heap.size,j,none⟩=false:=fun j=>by have h9:=HO3.out.res;simp[World.frozen?,h9]
    have HNO:=Lib.hid (HJN.out HQQ.out.symm);clear hb3;go_wp2;refine bodyPost_ret (v:=.tuple #[aggV (fun _=>.slice none 0 0),.bool false]) (by simp[results,Tryz.results65,go_sem,aggV,r0,r1,r2,r3]) rfl ⟨?_,?_⟩
    ·rw[HNO.out]
    exact(((HO3.out.below.setCell (p:=⟨w.heap.size,0,none⟩) (Nat.le_refl _) _).setCell (p:=⟨w.heap.size,1,none⟩) (Nat.le_refl _) _).setCell (p:=⟨w.heap.size,2,none⟩) (Nat.le_refl _) _).setCell (p:=⟨w.heap.size,3,none⟩) (Nat.le_refl _) _
   | true=>
    go_wp2;go_quiet (fail)
    go_wp2;go_quiet (fail)
    go_wp2_with fail
    refine(HEQ.out _ (a0d (Below.refl _ _) _)).mono ?_
    rintro e w3 ⟨rfl,hb3⟩;have HB3:=Lib.hid ((a0d (Below.refl wr.heap.size wr) _).trans hb3);have HCO:=Lib.hid (a9B (.slice a2 n2 c2) l2 w3 (HA2.out.keep fun j hj=>HB3.out.block j (HA2.out.lt hj)) (by rw[<-N2.out];omega));clear hb3;go_wp2_with fail
    refine HCO.out.mono ?_;rintro e w4 ⟨v4,rfl,ho4,hb4⟩;have HB4:=Lib.hid (below_trans HB3.out hb4);have HN4:=Lib.hid (HNXT.out w4 v4 HQQ.out.symm (by rw[HLX.out];exact a1z ho4 HB3.out.size) HB4.out);have HO4:=Lib.hid (ho.out.below' HB4.out)
    have x0:∃u,w4.cell? ⟨w.heap.size+1,k,none⟩=some u:=by
     rcases (show k=0\/k=1\/k=2\/k=3 by omega)with rfl|rfl|rfl|rfl<;>exact⟨_,heap_cell HO4.out.cells rfl⟩
    obtain⟨u4,hu4⟩:=x0;have g0:w4.frozen? ⟨w.heap.size+1,k,none⟩=false:=by have h9:=HO4.out.cells;simp[World.frozen?,h9]
    obtain⟨va,vc,rfl⟩:=own_shape ho4;have HSZ4:Hid (w.heap.size+2<=w4.heap.size):=Lib.hid (by have:=HB4.out.size;omega);clear ho4 hb4;go_wp2;go_roundw
    case rel=>exact⟨k+1,_,by omega,by go_num,HN4,by rw[World.size_setCell];exact HSZ4.out⟩
    case measure=>simp[intOf];omega
  have e:k=4:=by omega
  subst e;have r0:=heap_cell (j:=0) ho.out.res rfl;have r1:=heap_cell (j:=1) ho.out.res rfl;have r2:=heap_cell (j:=2) ho.out.res rfl;have r3:=heap_cell (j:=3) ho.out.res rfl;have g0:∀j,wr.frozen? ⟨w.heap.size,j,none⟩=false:=fun j=>by have h9:=ho.out.res;simp[World.frozen?,h9]
  obtain⟨a0,d0,f0⟩:=own_shape (ho.out.done 0 (by omega));obtain⟨a1,d1,f1⟩:=own_shape (ho.out.done 1 (by omega));obtain⟨a2,d2,f2⟩:=own_shape (ho.out.done 2 (by omega));obtain⟨a3,d3,f3⟩:=own_shape (ho.out.done 3 (by omega));have y0:=heap_cell (j:=0) ho.out.cells rfl;have y1:=heap_cell (j:=1) ho.out.cells rfl;have y2:=heap_cell (j:=2) ho.out.cells rfl;have y3:=heap_cell (j:=3) ho.out.cells rfl;rw[f0]at y0;rw[f1]at y1;rw[f2]at y2;rw[f3]at y3;have HF:=Lib.hid (And.intro f0 (And.intro f1 (And.intro f2 f3)));have HJY:=Lib.hid (aaV ho.out.fits);clear f0 f1 f2 f3;go_wp2;refine bodyPost_ret (v:=.tuple #[.agg #[.slice a0 (a18 (b1 0) (b2 0)).length d0,.slice a1 (a18 (b1 1) (b2 1)).length d1,.slice a2 (a18 (b1 2) (b2 2)).length d2,.slice a3 (a18 (b1 3) (b2 3)).length d3],.bool true]) (by simp[results,Tryz.results65,go_sem,r0,r1,r2,r3]) rfl ⟨?_,?_⟩
  ·rw[HJY.out]
   have hset:∀(v0 v1 v2 v3:Value) (j:Nat),j≠w.heap.size->((((wr.setCell ⟨w.heap.size,0,none⟩ v0).setCell ⟨w.heap.size,1,none⟩ v1).setCell ⟨w.heap.size,2,none⟩ v2).setCell ⟨w.heap.size,3,none⟩ v3).heap[j]? =wr.heap[j]? :=fun v0 v1 v2 v3 j hj=>
    (Below.heap_setCell _ _ _ j hj).trans ((Below.heap_setCell _ _ _ j hj).trans ((Below.heap_setCell _ _ _ j hj).trans (Below.heap_setCell _ _ _ j hj)))
   refine⟨us,by unfold aggV;rw[HF.out.1,HF.out.2.1,HF.out.2.2.1,HF.out.2.2.2],fun i hi=>?_,fun i hi g hg=>?_,ho.out.apart⟩
   ·exact a1z (a2j (ho.out.done i hi) fun j hj=>hset _ _ _ _ j (by omega)) (Nat.zero_le _)
   have:=((ho.out.done i hi).lt g hg).1;omega
  exact(((ho.out.below.setCell (p:=⟨w.heap.size,0,none⟩) (Nat.le_refl _) _).setCell (p:=⟨w.heap.size,1,none⟩) (Nat.le_refl _) _).setCell (p:=⟨w.heap.size,2,none⟩) (Nat.le_refl _) _).setCell (p:=⟨w.heap.size,3,none⟩) (Nat.le_refl _) _
end Go.Proofs.YtdfkaijeppdhaaaGreatDoor
namespace Go.Proofs.YtdfkaijeppdhaaaGreatDoor
open Go.RowKit Go.Shelf
theorem do_any(P n:Nat)(hn:n<4)(F:List Nat)(b:Book)(line:ByteArray)(hs:line.size<=1000000)(w:World)(h:PostAt w P F n b)(hok:a08 b)(hV:Vars w)(hfree:∀k∈F,¬a1p k):
  Calls Tryz.prog 24 #[.pointer (some ⟨P,0,none⟩),.string line] w (a4Q P n F (doB b n line) w):=by
 cases hc:a02 line with
 |none=>
  rw[show doB b n line=(emp,100,b) by unfold doB;rw[hc]];exact do_no P n F b line hs w h hV (by rw[hc];rfl)
 | some c=>
  by_cases hd:c.deed=false
  ·rw[show doB b n line=(emp,100,b) by unfold doB;rw[hc];simp only;rw[if_pos hd]];exact do_no P n F b line hs w h hV (by rw[hc];exact hd)
  cases c with
  |put nm tx=>exact do_put P n hn F b line hs w h hok hV hfree nm tx hc
  |add nm mm=>exact do_add P n hn F b line hs w h hok hV hfree nm mm hc
  |drop nm=>
   cases htx:(a06 (allB b)).txt nm with
   |none=>exact aaT P n hn F b line hs w h hok hV hfree nm hc htx
   |some tx=>exact aiS P n hn F b line hs w h hok hV hfree nm tx hc htx
  |stock nm=>exact absurd rfl hd
  |share m nms=>exact absurd rfl hd
  |asked k nms ns=>exact absurd rfl hd
theorem PostAt.parts{w:World}{P n:Nat}{F:List Nat}{b:Book}(h:PostAt w P F n b):∃K vs,w.heap[P]? =some (.cells #[.pointer (some ⟨K,0,none⟩),.int .i64 n] 81 (0,0))/\BookIs w K vs b/\F=P::K::blks (vs 0) (vs 1) (vs 2) (vs 3):=by
 obtain⟨K,G,hP,hB,hF⟩:=h;obtain⟨vs,hvs,rfl⟩:=a3F hB;exact⟨K,vs,hP,hvs,hF⟩
theorem adI(P n:Nat)(F:List Nat)(b:Book)(s0 s1 s2 s3:Int)(seen:Nat->Int)(hs:seen 0=s0/\seen 1=s1/\seen 2=s2/\seen 3=s3)(w:World)(h:PostAt w P F n b)(hok:a08 b):
  Calls Tryz.prog 32 #[.pointer (some ⟨P,0,none⟩),.agg #[.int .i64 s0,.int .i64 s1,.int .i64 s2,.int .i64 s3]] w (a3E (a33 b seen) w):=by
 obtain⟨K,vs,hP,hvs,hF⟩:=h.parts;have HN:=Lib.hid (a16 P K n _ w hP);have p0:=heap_cell (j:=0) hP rfl;have p1:=heap_cell (j:=1) hP rfl;have HPC:=Lib.hid hP;clear hP;obtain⟨o3,ho3⟩:∃o3:Obj,o3= .cells #[.int .i64 s0,.int .i64 s1,.int .i64 s2,.int .i64 s3] 34:=⟨_,rfl⟩
 have hb3:Below w.heap.size w (w.alloc o3):=(Below.refl _ _).alloc (Nat.le_refl _) _
 have HN3:=Lib.hid (a16 P K n _ (w.alloc o3) ((hb3.block P (h.lt (by rw[hF];simp))).trans HPC.out));have HC:=Lib.hid (fun W (hW:Below w.heap.size w W)=>a9x K _ b s0 s1 s2 s3 seen hs W (hvs.below hW).at (fun i hi=>(hok i hi).len) hok);have HB3:=Lib.hid hb3;have q0:=keep_cell hb3 p0;have z0:=heap_cell (j:=0) (show (w.alloc o3).heap[w.heap.size]? =some (.cells #[.int .i64 s0,.int .i64 s1,.int .i64 s2,.int .i64 s3] 34 (0,0)) by rw[World.alloc_heap_new,ho3]) rfl;have z1:=heap_cell (j:=1) (show (w.alloc o3).heap[w.heap.size]? =some (.cells #[.int .i64 s0,.int .i64 s1,.int .i64 s2,.int .i64 s3] 34 (0,0)) by rw[World.alloc_heap_new,ho3]) rfl;have z2:=heap_cell (j:=2) (show (w.alloc o3).heap[w.heap.size]? =some (.cells #[.int .i64 s0,.int .i64 s1,.int .i64 s2,.int .i64 s3] 34 (0,0)) by rw[World.alloc_heap_new,ho3]) rfl;have z3:=heap_cell (j:=3) (show (w.alloc o3).heap[w.heap.size]? =some (.cells #[.int .i64 s0,.int .i64 s1,.int .i64 s2,.int .i64 s3] 34 (0,0)) by rw[World.alloc_heap_new,ho3]) rfl;have HO3:=Lib.hid ho3;clear hvs hF h hok hs hb3 ho3;go_enter Tryz.func32,Tryz.ntmps32;go_wp2_with fail
 rw[<-HO3.out];refine HN3.out.mono ?_;rintro e w' ⟨rfl,rfl⟩;go_wp2;go_region_with (go_at_call 63;refine(HC.out _ (a0d HB3.out _)).mono ?_;rintro e w2 ⟨v,rfl,h1,h2,h3⟩;have HX:=Lib.hid (And.intro h1 (And.intro h2 h3));clear h1 h2 h3)
 all_goals go_wp2
 all_goals go_ret
 all_goals exact⟨v,rfl,HX.out.1,fun k hk=>by have:=HX.out.2.1 k hk;have:=HB3.out.size;simp at *;omega,(a0d HB3.out _).trans (HX.out.2.2.mono (by have:=HB3.out.size;simp at *))⟩
theorem adJ(b:Book):allB b=a33 b fun _=>0:=rfl
theorem afD(P n:Nat)(F:List Nat)(b:Book)(w:World)(h:PostAt w P F n b)(hok:a08 b):
  Calls Tryz.prog 25 #[.pointer (some ⟨P,0,none⟩)] w (a3E (allB b) w):=by
 have HS:=Lib.hid (adI P n F b 0 0 0 0 (fun _=>0) ⟨rfl,rfl,rfl,rfl⟩ w h hok);rw[adJ];clear h hok;go_enter Tryz.func25,Tryz.ntmps25;go_wp2_with fail
 refine HS.out.mono ?_;rintro e w' ⟨v,rfl,h1,h2,h3⟩;go_wp2;go_ret;exact⟨v,rfl,h1,h2,h3⟩
end Go.Proofs.YtdfkaijeppdhaaaGreatDoor
namespace Go.Proofs.YtdfkaijeppdhaaaGreatDoor
open Go.RowKit Go.Shelf
def a0x(b o:Book):Int×Book:=match a3t b o with
 |some c=>(0,c)
 |none=>(102,b)
theorem aaX{b o:Book}(hb:a08 b)(ho:a08 o):a08 (a0x b o).2:=by
 unfold a0x;cases h:a3t b o with
 |none=>exact hb
 |some c=>exact ahe hb ho h
def aaY(P n:Nat)(F:List Nat)(r:Int×Book)(w:World)(e:Ending)(w':World):Prop:=
 e= .returned (.int .i64 r.1)/\∃F',PostAt w' P F' n r.2/\a2y w F F'/\Off F w w'
theorem NewBook.parts{w:World}{lo:Nat}{us:Nat->Value}{c:Book}(h:NewBook w lo us c):∃a0 d0 a1 d1 a2 d2 a3 d3,us 0= .slice a0 (c 0).length d0/\us 1= .slice a1 (c 1).length d1/\us 2= .slice a2 (c 2).length d2/\us 3= .slice a3 (c 3).length d3:=by
 obtain⟨a0,d0,h0⟩:=own_shape (h.list 0 (by omega));obtain⟨a1,d1,h1⟩:=own_shape (h.list 1 (by omega));obtain⟨a2,d2,h2⟩:=own_shape (h.list 2 (by omega));obtain⟨a3,d3,h3⟩:=own_shape (h.list 3 (by omega));exact⟨a0,d0,a1,d1,a2,d2,a3,d3,h0,h1,h2,h3⟩
theorem NewBook.is{w:World}{lo N:Nat}{us:Nat->Value}{c:Book}(h:NewBook w lo us c)(hN:w.heap[N]? =some (.cells #[us 0,us 1,us 2,us 3] 96 (0,0))):BookIs w N us c:=
 ⟨hN,h.list,h.apart⟩
theorem ahz{w W:World}{P K n N lo:Nat}{F:List Nat}{vs us:Nat->Value}{c:Book}(hP:w.heap[P]? =some (.cells #[.pointer (some ⟨K,0,none⟩),.int .i64 n] 81 (0,0)))(hF:F=P::K::blks (vs 0) (vs 1) (vs 2) (vs 3))
  (hb:Below w.heap.size w W)(hB:BookIs W N us c)(hN:w.heap.size<=N)(hlo:w.heap.size<=lo)(hl:∀i,i<4->∀g,(us i).ownBlock=some g->lo<=g):
  ∃F',PostAt (W.setCell ⟨P,0,none⟩ (.pointer (some ⟨N,0,none⟩))) P F' n c/\a2y w F F'/\Off F w (W.setCell ⟨P,0,none⟩ (.pointer (some ⟨N,0,none⟩))):=by
 have hPlt:P<w.heap.size:=(Array.getElem?_eq_some_iff.1 hP).1
 have hPW:=(hb.block P hPlt).trans hP
 have hset:∀k,k≠P->(W.setCell ⟨P,0,none⟩ (.pointer (some ⟨N,0,none⟩))).heap[k]? =W.heap[k]? :=fun k hk=>Below.heap_setCell _ _ _ k hk
 have hPx:(W.setCell ⟨P,0,none⟩ (.pointer (some ⟨N,0,none⟩))).heap[P]? =some (.cells #[.pointer (some ⟨N,0,none⟩),.int .i64 n] 81 (0,0)):=by
  obtain⟨hlt,hk⟩:=Array.getElem?_eq_some_iff.1 hPW;show (W.heap.modify P _)[P]? =_;rw[Array.getElem?_eq_getElem (by rw[Array.size_modify];exact hlt),Array.getElem_modify_self,hk];simp
 refine⟨P::N::blks (us 0) (us 1) (us 2) (us 3),⟨N,_,hPx,(hB.keep (hset N (by omega)) fun i hi k hk=>hset k (by have:=hl i hi k hk;omega)).at,rfl⟩,fun k hk=>?_,⟨hb.os,hb.tape,hb.output,by rw[World.size_setCell];exact hb.size,fun k hk hkF=>?_⟩⟩
 ·rcases List.mem_cons.1 hk with rfl|hk
  ·exact .inl (by rw[hF];simp)
  rcases List.mem_cons.1 hk with rfl|hk
  ·exact .inr hN
  obtain⟨i,hi,h5⟩:=mem_blks.1 hk;have:=hl i hi k h5;exact .inr (by omega)
 exact(hset k (fun e=>hkF (by rw[hF,e];simp))).trans (hb.block k hk)
theorem NewBook.keep{w w':World}{lo:Nat}{us:Nat->Value}{c:Book}(h:NewBook w lo us c)(hk:∀i,i<4->∀g,(us i).ownBlock=some g->w'.heap[g]? =w.heap[g]?):NewBook w' lo us c:=
 ⟨fun i hi=>(h.list i hi).keep (hk i hi),h.low,h.apart⟩
theorem ahA(P n:Nat)(F:List Nat)(b:Book)(K2:Nat)(vs2:Nat->Value)(b2:Book)(w:World)(h:PostAt w P F n b)(h2:BookIs w K2 vs2 b2)(hok:a08 b)(hok2:a08 b2):
  Calls Tryz.prog 52 #[.pointer (some ⟨P,0,none⟩),.pointer (some ⟨K2,0,none⟩)] w (aaY P n F (a0x b b2) w):=by
 have HP:=Lib.hid h;obtain⟨K,vs,hP,hvs,hF⟩:=h.parts;have HJ:=Lib.hid (fun W (hW:KB w W)=>adH K K2 vs vs2 b b2 W (hvs.below hW) (h2.below hW) (fun i hi=>(hok i hi).len) (fun i hi=>(hok2 i hi).len));have HPC:=Lib.hid hP;have HF:=Lib.hid hF;have r0:=heap_cell (j:=0) hP rfl;clear h hvs h2 hok hok2 hF hP;unfold a0x;unfold aaU at HJ;cases hj:a3t b b2 with
 |none=>
  rw[hj]at HJ;simp only at HJ;clear hj;go_enter Tryz.func52,Tryz.ntmps52;go_wp2_with fail
  refine(HJ.out _ (KB.refl _)).mono ?_
  rintro e w2 ⟨rfl,hb2⟩;unfold aggV;have HB2:=Lib.hid hb2;clear hb2;go_wp2;go_ret;have hb:Below w.heap.size w (w2.alloc (.cells #[.slice none 0 0,.slice none 0 0,.slice none 0 0,.slice none 0 0] 96)):=HB2.out.alloc HB2.out.size _;exact⟨rfl,F,HP.out.below hb,a1G _ _,Off.of_below hb⟩
 | some c=>
  rw[hj]at HJ;simp only at HJ;clear hj;go_enter Tryz.func52,Tryz.ntmps52;go_wp2_with fail
  refine(HJ.out _ (KB.refl _)).mono ?_
  rintro e w2 ⟨⟨us,rfl,hnb⟩,hb2⟩;obtain⟨a0,d0,a1,d1,a2,d2,a3,d3,f0,f1,f2,f3⟩:=hnb.parts;unfold aggV;rw[f0,f1,f2,f3];have HU:=Lib.hid (And.intro f0 (And.intro f1 (And.intro f2 f3)));have HB2:=Lib.hid hb2;have HNB:=Lib.hid hnb;clear f0 f1 f2 f3 hb2 hnb;obtain⟨W,hW⟩:∃W,W=w2.alloc (.cells #[.slice a0 (c 0).length d0,.slice a1 (c 1).length d1,.slice a2 (c 2).length d2,.slice a3 (c 3).length d3] 96):=⟨_,rfl⟩
  have hb:Below w.heap.size w W:=by rw[hW];exact HB2.out.alloc HB2.out.size _
  have hNW:W.heap[w2.heap.size]? =some (.cells #[us 0,us 1,us 2,us 3] 96 (0,0)):=by
   rw[hW,HU.out.1,HU.out.2.1,HU.out.2.2.1,HU.out.2.2.2];exact World.alloc_heap_new w2 _
  have hBI:BookIs W w2.heap.size us c:=NewBook.is (HNB.out.keep fun i hi g hg=>by
   have hg2:=(HNB.out.list i hi).lt hg
   rw[hW];exact Below.heap_alloc _ _ _ hg2) hNW
  have HE:=Lib.hid (ahz (us:=us) HPC.out HF.out hb hBI HB2.out.size (Nat.le_refl _) HNB.out.low);have HPW:=Lib.hid ((hb.block P (Array.getElem?_eq_some_iff.1 HPC.out).1).trans HPC.out);have y0:=heap_cell (j:=0) HPW.out rfl;have yf:W.frozen? ⟨P,0,none⟩=false:=by have h9:=HPW.out;simp[World.frozen?,h9]
  rw[hW]at y0 yf HE;clear hW hb hNW hBI r0 HPW;go_wp2;go_ret;exact⟨rfl,HE.out⟩
theorem afE(P n:Nat)(F:List Nat)(b:Book)(P2 n2:Nat)(F2:List Nat)(b2:Book)(w:World)(h:PostAt w P F n b)(h2:PostAt w P2 F2 n2 b2)(hok:a08 b)(hok2:a08 b2):
  Calls Tryz.prog 22 #[.pointer (some ⟨P,0,none⟩),.pointer (some ⟨P2,0,none⟩)] w (aaY P n F (a0x b b2) w):=by
 obtain⟨K2,vs2,hP2,hvs2,hF2⟩:=h2.parts;obtain⟨K,vs,hP,hvs,hF⟩:=h.parts;have HN:=Lib.hid (a16 P K n _ w hP);have HN2:=Lib.hid (a16 P2 K2 n2 _ w hP2);have HT:=Lib.hid (ahA P n F b K2 vs2 b2 w h hvs2 hok hok2);have p0:=heap_cell (j:=0) hP2 rfl;clear h h2 hP hP2 hvs hvs2 hF hF2 hok hok2;go_enter Tryz.func22,Tryz.ntmps22;go_wp2_with fail
 refine HN.out.mono ?_;rintro e w' ⟨rfl,rfl⟩;go_wp2_with fail
 refine HN2.out.mono ?_;rintro e w' ⟨rfl,rfl⟩;go_wp2_with fail
 refine HT.out.mono ?_;rintro e w' ⟨rfl,h⟩;go_wp2;go_ret;exact⟨rfl,h⟩
end Go.Proofs.YtdfkaijeppdhaaaGreatDoor
namespace Go.Proofs.YtdfkaijeppdhaaaGreatDoor
open Go.RowKit Go.Shelf
theorem ListAt.same{w:World}{v:Value}{l m:List Ent}(h:ListAt w v l)(e:l=m):ListAt w v m:=e▸h
theorem BookIs.same{w:World}{K:Nat}{vs:Nat->Value}{b c:Book}(h:BookIs w K vs b)(e:∀i,i<4->b i=c i):BookIs w K vs c:=⟨h.cells,fun i hi=>(h.list i hi).same (e i hi),h.apart⟩
end Go.Proofs.YtdfkaijeppdhaaaGreatDoor
namespace Go.Proofs.YtdfkaijeppdhaaaGreatDoor
open Go.RowKit Go.Shelf
def afF:Go.Shelf.Ren:=⟨fun|167=>92|240=>120|276=>153|n=>n,fun|31=>22|9=>9|3=>3|4=>4|0=>0|20=>20|72=>151|76=>154|70=>149|37=>65|75=>153|127=>186|164=>217|5=>5|80=>55|n=>n,fun|n=>n⟩
theorem aiT:Go.Proofs.Lays.n167 Tryz.prog afF:={
 mixed:=Tryz.lays156.mixed
 f167:=Tryz.func92.trans (congrArg some (by kernel_rfl))
 f240:=Tryz.func120.trans (congrArg some (by kernel_rfl))
 f276:=Tryz.func153.trans (congrArg some (by kernel_rfl))
 t0:=Tryz.lays156.t0
 a0:=Tryz.lays156.a0
 z0:=Tryz.lays156.z0
 v0:=Tryz.lays156.v0
 t4:=Tryz.lays156.t4
 a4:=Tryz.lays156.a4
 z4:=Tryz.lays156.z4
 v4:=Tryz.lays156.v4
 t5:=Tryz.underlying5
 a5:=Tryz.isAgg5
 z5:=Tryz.sizeOf5
 v5:=Tryz.zeroValue5
 t9:=Tryz.lays156.t9
 a9:=Tryz.lays156.a9
 z9:=Tryz.lays156.z9
 v9:=Tryz.lays156.v9
 t20:=Tryz.lays156.t20
 a20:=Tryz.lays156.a20
 z20:=Tryz.lays156.z20
 v20:=Tryz.lays156.v20
 t37:=Tryz.lays156.t37
 a37:=Tryz.lays156.a37
 z37:=Tryz.lays156.z37
 v37:=Tryz.lays156.v37
 t70:=Tryz.lays156.t70
 a70:=Tryz.lays156.a70
 z70:=Tryz.lays156.z70
 v70:=Tryz.lays156.v70
 t72:=Tryz.lays156.t72
 a72:=Tryz.lays156.a72
 z72:=Tryz.lays156.z72
 v72:=Tryz.lays156.v72
 t75:=Tryz.lays156.t75
 a75:=Tryz.lays156.a75
 z75:=Tryz.lays156.z75
 v75:=Tryz.lays156.v75
 t164:=Tryz.lays156.t164
 a164:=Tryz.lays156.a164
 z164:=Tryz.lays156.z164
 v164:=Tryz.lays156.v164}
theorem ahB:Builder.Extra Tryz.prog afF:={
 sizeBuilder:=by kernel_rfl
 liesBuilder:=by kernel_rfl
 t5:=Tryz.underlying5
 a5:=Tryz.isAgg5
 z5:=Tryz.sizeOf5
 v5:=Tryz.zeroValue5
 infoByte:=by kernel_rfl
 cellsByte:=by kernel_rfl
 sizeByte:=by kernel_rfl
 neB5:=by decide}
def Bld(b:Nat)(l:List UInt8)(w:World):Prop:=Lib.IsBuilderF 151 5 b b (Lib.byteCells l) w
theorem Bld.lt{b:Nat}{l:List UInt8}{w:World}(h:Bld b l w):b<w.heap.size:=by rcases h with h|h<;>exact h.lt
theorem a4d(l m:List UInt8):Lib.byteCells (l++m)=Lib.byteCells l++Lib.byteCells m:=by simp[Lib.byteCells]
theorem Bld.new(w:World):Bld w.heap.size [] (w.alloc (.cells #[.pointer none,.slice none 0 0] 151)):=Lib.IsBuilderF.of (Lib.fresh_isBuilder 151 5 w)
theorem Bld.alloc{b:Nat}{l:List UInt8}{w:World}(h:Bld b l w)(o:Obj):Bld b l (w.alloc o):=by
 rcases h with h|h
 ·exact .inl (h.alloc o)
 exact .inr (h.alloc o)
theorem a4u{T e:TypeId}{B b:Nat}{p:Value}{bs:List Value}{w w':World}(h:Lib.BuilderAtF T e B b p bs w)(hb:Below w.heap.size w w'):Lib.BuilderAtF T e B b p bs w':=by
 have hlt:=h.lt;obtain⟨hB,v,hbk,hown,hne⟩:=h;refine⟨hB,v,(hb.block b hlt).trans hbk,hown.kept (row:=none) ⟨hb.os,hb.tape,hb.output,hb.size,fun k hk _=>hb.block k hk⟩ (by cases v.ownBlock<;>simp),hne⟩
theorem Bld.below{b:Nat}{l:List UInt8}{w w':World}(h:Bld b l w)(hb:Below w.heap.size w w'):Bld b l w':=by
 rcases h with h|h
 ·exact .inl (a4u h hb)
 exact .inr (a4u h hb)
structure Wrote(b:Nat)(l:List UInt8)(w w':World):Prop where
 bld:Bld b l w'
 below:Below b w w'
 kept:Lib.OthersKept 5 (some b) w w'
theorem afG(b:Nat)(l:List UInt8)(s:ByteArray)(w:World)(h:Bld b l w)(hl:l.length+s.size<=1000000):
  Calls Tryz.prog 91 #[.pointer (some ⟨b,0,none⟩),.string s] w fun e w'=>e= .returned (.tuple #[.int .i64 s.size,.nilIface])/\Wrote b (l++s.data.toList) w w':=by
 refine(Any.Builder_WriteString_k {Tryz.lays156 with} Tryz.Builder_Extra_156 b b (Lib.byteCells l) s w h (by rw[Lib.byteCells_length];omega) (Nat.le_of_lt h.lt)).mono ?_
 rintro e w' ⟨rfl,h1,h2,h3⟩;exact⟨rfl,.inr (by rw[a4d];exact h1),h2,h3⟩
theorem afH(b:Nat)(l:List UInt8)(c:UInt8)(w:World)(h:Bld b l w)(hl:l.length+1<=1000000):
  Calls Tryz.prog 92 #[.pointer (some ⟨b,0,none⟩),.int .u8 (c.toNat:Int)] w fun e w'=>e= .returned .nilIface/\Wrote b (l++[c]) w w':=by
 refine(Any.Builder_WriteByte_k aiT ahB b b (Lib.byteCells l) (c.toNat:Int) w h (by rw[Lib.byteCells_length];omega) (Nat.le_of_lt h.lt)).mono ?_
 rintro e w' ⟨rfl,h1,h2,h3⟩;exact⟨rfl,.inr (by rw[a4d];exact h1),h2,h3⟩
theorem afI(b:Nat)(l:List UInt8)(w:World)(h:Bld b l w):
  Calls Tryz.prog 93 #[.pointer (some ⟨b,0,none⟩)] w fun e w'=>e= .returned (.string ⟨l.toArray⟩)/\Below b w w':=by
 refine(Any.Builder_String_any_f Tryz.lays169 Tryz.Builder_Extra_169 b b l w h (Nat.le_of_lt h.lt)).mono ?_
 rintro e w' ⟨rfl,_,h2⟩;exact⟨rfl,h2⟩
end Go.Proofs.YtdfkaijeppdhaaaGreatDoor
namespace Go.Proofs.YtdfkaijeppdhaaaGreatDoor
open Go.RowKit Go.Shelf
def numE(e:Ent):List Int:=[a04 e,eNum e,eCnt e]
def a1T(e:Ent)(j:Nat):List UInt8:=((numE e).take j).flatMap fun n=>Lib.itoa n++[32]
theorem a84(e:Ent){j:Nat}(h:j<3):a1T e (j+1)=a1T e j++(Lib.itoa ((numE e).getD j 0)++[32]):=by
 unfold a1T numE;rcases (show j=0\/j=1\/j=2 by omega)with rfl|rfl|rfl<;>simp
theorem a86(e:Ent):a5f e=a1T e 3++((a05 e).data.toList++[10]):=by
 unfold a5f a1T numE;simp
theorem adK{l:List Ent}{k:Nat}(h:k<l.length):a1o (l.take (k+1))=a1o (l.take k)++a5f (l.getD k noE):=by
 unfold a1o;rw[List.take_add_one,List.flatMap_append,List.getElem?_eq_getElem h,List.getD_eq_getElem?_getD,List.getElem?_eq_getElem h];simp
theorem a3W{n:Int}(h0:0<=n)(h1:n<=1000000):(Lib.itoa n).length<=11:=itoa_len (by omega) (by omega)
theorem a87{e:Ent}(h:(0<=a04 e/\a04 e<=3)/\(1<=eNum e/\eNum e<=60)/\(1<=eCnt e/\eCnt e<=1000000)){j:Nat}(hj:j<3):0<=(numE e).getD j 0/\(numE e).getD j 0<=1000000:=by
 unfold numE;rcases (show j=0\/j=1\/j=2 by omega)with rfl|rfl|rfl<;>simp<;>omega
theorem a4v{e:Ent}(h:(0<=a04 e/\a04 e<=3)/\(1<=eNum e/\eNum e<=60)/\(1<=eCnt e/\eCnt e<=1000000)):∀j,j<=3->(a1T e j).length<=12 * j
 |0,_=>by simp[a1T]
 |j+1,hj=>by
  have h1:=a4v h j (by omega);have h2:=a87 h (j:=j) (by omega);have h3:=a3W h2.1 h2.2;rw[a84 e (by omega)];simp only[List.length_append,List.length_singleton];omega
theorem afJ{l:List Ent}(h:∀e∈l,(a5f e).length<=200):(a1o l).length<=200 * l.length:=by
 induction l with
 |nil=>simp[a1o]
 |cons e l ih=>
  have h1:=ih fun x hx=>h x (by simp[hx]);have h2:=h e (by simp);show (a5f e++a1o l).length<=_
  rw[List.length_append,List.length_cons];omega
theorem a5l{e:Ent}(h:a4n (a05 e)=true):(a05 e).data.toList.length<=60:=by
 rw[a1J,a0T,a03]at h;exact h.1
theorem acj{e:Ent}(h:(0<=a04 e/\a04 e<=3)/\(1<=eNum e/\eNum e<=60)/\(1<=eCnt e/\eCnt e<=1000000))(hl:a4n (a05 e)=true):(a5f e).length<=200:=by
 have h1:=a4v h 3 (by omega);have h2:=a5l hl;rw[a86,List.length_append,List.length_append,List.length_singleton];omega
theorem a3i{b k:Nat}{w w':World}{cs:Array Value}{t:TypeId}{fr:Nat×Nat}(h:Lib.OthersKept 5 (some b) w w')(hk:w.heap[k]? =some (.cells cs t fr))(hb:k≠b)(ht:t≠5):w'.heap[k]? =some (.cells cs t fr):=
 h k _ hk (fun e=>hb (by injection e)) (fun c fz e=>ht (by injection e))
theorem ajL{b:Nat}{w w':World}(h:Below w.heap.size w w'):Lib.OthersKept 5 (some b) w w':=fun k _ hk _ _=>(h.block k (Array.getElem?_eq_some_iff.1 hk).1).trans hk
theorem ListAt.cellsK{w:World}{v:Value}{l:List Ent}(h:ListAt w v l)(h0:0<l.length):∃g cap cur,v= .slice (some ⟨g,0,none⟩) l.length cap/\w.heap[g]? =some (.cells cur 43 (0,0))/\
  ∀W:World,W.heap[g]? =some (.cells cur 43 (0,0))->ListAt W v l:=by
 rcases h.2 with⟨_,h1⟩|⟨g,cap,cur,rfl,h2,h3,h4⟩
 ·omega
 exact⟨g,cap,cur,rfl,h3,fun W hW=>⟨h.1,.inr ⟨g,cap,cur,rfl,h2,hW,h4⟩⟩⟩
theorem Wrote.trans{b:Nat}{l l':List UInt8}{a c d:World}(h:Wrote b l a c)(k:Wrote b l' c d):Wrote b l' a d:=⟨k.bld,h.below.trans k.below,h.kept.trans k.kept⟩
theorem Wrote.more{b:Nat}{l:List UInt8}{a c d:World}(h:Wrote b l a c)(k:Below c.heap.size c d):Wrote b l a d:=⟨h.bld.below k,h.below.trans (k.mono (Nat.le_of_lt h.bld.lt)),h.kept.trans (ajL k)⟩
theorem Wrote.refl{b:Nat}{l:List UInt8}{w:World}(h:Bld b l w):Wrote b l w w:=⟨h,Below.refl _ _,Lib.OthersKept.refl _ _ _⟩
theorem Wrote.same{b:Nat}{l l':List UInt8}{a c:World}(h:Wrote b l a c)(e:l=l'):Wrote b l' a c:=e▸h
theorem text_any(K:Nat)(F:List Nat)(b:Book)(w:World)(h:BookAt w K F b)(hok:a08 b)(hV:Vars w):
  Calls Tryz.prog 62 #[.pointer (some ⟨K,0,none⟩)] w fun e w'=>e= .returned (.string (textB b))/\Below w.heap.size w w':=by
 have hb1:Below w.heap.size w (w.alloc (.cells #[.pointer none,.slice none 0 0] 151)):=(Below.refl _ _).alloc (Nat.le_refl _) _
 have HA:=Lib.hid (a2W K F b _ (h.keep (w':=w.alloc (.cells #[.pointer none,.slice none 0 0] 151)) fun k hk=>hb1.block k (by
  rcases hk with rfl|hk
  ·obtain⟨_,_,_,_,hK,_⟩:=h;exact(Array.getElem?_eq_some_iff.1 hK).1
  exact h.lt hk)) hok)
 have HB1:=Lib.hid hb1;have HV:=Lib.hid hV;have HBD:=Lib.hid (fun e (he:e∈allB b)=>a0Z hok he);have HT:Hid (textB b=⟨(a1o (allB b)).toArray⟩):=Lib.hid rfl
 have hlen:(allB b).length<=240:=by
  rw[a10];unfold lenB;have h0:=(hok 0 (by omega)).len
  have h1:=(hok 1 (by omega)).len
  have h2:=(hok 2 (by omega)).len
  have h3:=(hok 3 (by omega)).len
  omega
 clear h hok hV hb1;generalize allB b=l at *;rw[HT.out];clear HT;go_enter Tryz.func62,Tryz.ntmps62;go_wp2_with fail
 refine HA.out.mono ?_;rintro e w1 ⟨v,rfl,hl1,hnew,hb1⟩;have HB2:Hid (Below w.heap.size w w1):=Lib.hid (HB1.out.trans (hb1.mono (by simp)));have HBL:Hid (Bld w.heap.size [] w1):=Lib.hid ((Bld.new w).below hb1);have hsz1:w.heap.size+1<=w1.heap.size:=by have:=hb1.size;simpa using this
 clear hb1;by_cases h0:0<l.length
 ·obtain⟨g,cap,cur,rfl,hg,hcc⟩:=hl1.cellsK h0;have hgb:g≠w.heap.size:=by have:=hnew g rfl;simp at this;omega
  have HG:=Lib.hid hg;have HC:=Lib.hid (fun W hW=>(hcc W hW).ents (by omega));obtain⟨n,hn⟩:∃n,n=l.length:=⟨_,rfl⟩
  have HN:=Lib.hid hn;rw[<-hn]at hlen h0⊢;clear hn hl1 hnew hg hcc;go_wp2_with fail
  go_loopw [11] (fun i wr=>∃k:Nat,k<=n/\i= .int .i64 k/\Hid (Wrote w.heap.size (a1o (l.take k)) w1 wr)) (fun i _=>n-(intOf i).toNat)
  case atStart=>exact⟨0,Nat.zero_le _,rfl,Lib.hid ⟨HBL.out,Below.refl _ _,Lib.OthersKept.refl _ _ _⟩⟩
  case round=>
   obtain⟨k,hk,rfl,hw⟩:=hrel;obtain⟨wo,hwo⟩:∃wo,wo=wr:=⟨_,rfl⟩
   subst hwo;by_cases hlt:k<n
   ·have hgr:=a3i hw.out.kept HG.out hgb (by decide);obtain⟨bk,off,cap',hv,hcs⟩:=(HC.out wo hgr).cells (by rw[<-HN.out];exact h0)
    simp only[Value.slice.injEq,Option.some.injEq,Addr.mk.injEq]at hv;obtain⟨⟨rfl,rfl,_⟩,_,rfl⟩:=hv;have hkl:k<l.length:=by rw[<-HN.out];exact hlt
    have hcs:=hcs k hkl;have HBE:=Lib.hid (HBD.out _ (getD_mem' (l:=l) (i:=k) hkl));have HTK:=Lib.hid (adK hkl)
    have HTL:Hid ((a1o (l.take k)).length<=48000):=Lib.hid (by
     have:=afJ (l:=l.take k) fun e he=>acj ⟨(HBD.out e (List.mem_of_mem_take he)).1,(HBD.out e (List.mem_of_mem_take he)).2.1,(HBD.out e (List.mem_of_mem_take he)).2.2.1⟩ (HBD.out e (List.mem_of_mem_take he)).2.2.2
     rw[List.length_take]at this;omega)
    rw[show ((0,0,0,⟨#[]⟩):Ent)=noE from rfl]at hcs;simp only[Nat.zero_add]at hcs;generalize l.getD k noE=en at *;obtain⟨d0,d1,d2,d3⟩:=hcs;have hwz:w.heap.size+1<=wo.heap.size:=by have:=hw.out.bld.lt;omega
    obtain⟨w5,hw5⟩:∃w5,w5=(wo.alloc (.cells #[.int .i64 (a04 en),.int .i64 (eNum en),.int .i64 (eCnt en),.string (a05 en)] 43)).alloc (.cells #[.int .i64 (a04 en),.int .i64 (eNum en),.int .i64 (eCnt en)] 3):=⟨_,rfl⟩
    have hb5:Below wo.heap.size wo w5:=by rw[hw5];exact((Below.refl _ _).alloc (Nat.le_refl _) _).alloc (by simp) _
    have HW1:=Lib.hid (hw.out.more hb5)
    have HE5:Hid (w5.heap[wo.heap.size]? =some (.cells #[.int .i64 (a04 en),.int .i64 (eNum en),.int .i64 (eCnt en),.string (a05 en)] 43 (0,0))):=Lib.hid (by
     rw[hw5];exact(Below.heap_alloc _ _ _ (by simp)).trans (World.alloc_heap_new wo _))
    have HS5:Hid (w5.heap[wo.heap.size+1]? =some (.cells #[.int .i64 (a04 en),.int .i64 (eNum en),.int .i64 (eCnt en)] 3 (0,0))):=Lib.hid (by
     have:=World.alloc_heap_new (wo.alloc (.cells #[.int .i64 (a04 en),.int .i64 (eNum en),.int .i64 (eCnt en),.string (a05 en)] 43)) (.cells #[.int .i64 (a04 en),.int .i64 (eNum en),.int .i64 (eCnt en)] 3);rw[World.size_alloc]at this;rw[hw5];exact this)
    have HW5:=Lib.hid hw5;have HWR:=Lib.hid (Wrote.refl HW1.out.bld);clear hw5 hb5 hgr;go_wp2_with fail
    rw[<-HW5.out];go_loopw [23] (fun i wr=>∃j:Nat,j<=3/\i= .int .i64 j/\Hid (Wrote w.heap.size (a1o (l.take k)++a1T en j) w5 wr)) (fun i _=>3-(intOf i).toNat)
    case atStart=>exact⟨0,by omega,rfl,Lib.hid (HWR.out.same (by simp[a1T]))⟩
    case round=>
     obtain⟨j,hj,rfl,hwj⟩:=hrel;by_cases hlj:j<3
     ·have HSJ:=Lib.hid (a3i hwj.out.kept HS5.out (by omega) (by decide))
      have hcj:wr.cell? ⟨wo.heap.size+1,j,none⟩=some (.int .i64 ((numE en).getD j 0)):=by
       rcases (show j=0\/j=1\/j=2 by omega)with rfl|rfl|rfl<;>exact heap_cell HSJ.out rfl
      have hnb:=a87 ⟨HBE.out.1,HBE.out.2.1,HBE.out.2.2.1⟩ hlj;have HNX:=Lib.hid (a84 en hlj);have hnl:=a4v ⟨HBE.out.1,HBE.out.2.1,HBE.out.2.2.1⟩ j (by omega);have hil:=a3W hnb.1 hnb.2;generalize (numE en).getD j 0=x at *
      have HVJ:=Lib.hid (HV.out.below (HB2.out.trans (HW1.out.below.trans hwj.out.below)));have HI:=Lib.hid (itoa_any x (by omega) (by omega) wr HVJ.out);have j1:(0:Int)<=(j:Int):=by omega
      have j2:(j:Int)<3:=by omega
      have HWS:=Lib.hid (fun w6 (h6:Below wr.heap.size wr w6)=>afG w.heap.size (a1o (l.take k)++a1T en j) (itoaB x) w6 (hwj.out.more h6).bld (by
       have:=HTL.out;rw[List.length_append,a03,show (itoaB x).data.toList=Lib.itoa x from rfl];omega))
      have HWB:Hid (∀w7,Bld w.heap.size (a1o (l.take k)++a1T en j++(itoaB x).data.toList) w7->Calls Tryz.prog 92 #[.pointer (some ⟨w.heap.size,0,none⟩),.int .u8 32] w7 fun e w'=>e= .returned .nilIface/\Wrote w.heap.size (a1o (l.take k)++a1T en j++(itoaB x).data.toList++[32]) w7 w'):=Lib.hid (fun w7 h7=>afH w.heap.size _ 32 w7 h7 (by
       have:=HTL.out;rw[List.length_append,List.length_append,show (itoaB x).data.toList=Lib.itoa x from rfl];omega))
      clear hnl hil;go_wp2_with fail
      refine HI.out.mono ?_;rintro e w6 ⟨rfl,h6⟩;have H6:=Lib.hid h6;clear h6;go_wp2_with fail
      refine(HWS.out _ H6.out).mono ?_
      rintro e w7 ⟨rfl,hw7⟩;have H7:=Lib.hid hw7;clear hw7;go_wp2_with fail
      refine(HWB.out _ H7.out.bld).mono ?_
      rintro e w8 ⟨rfl,hw8⟩;have H8:=Lib.hid (((hwj.out.more H6.out).trans H7.out).trans hw8);clear hw8;go_wp2;go_roundw
      case rel=>exact⟨j+1,by omega,by go_num,Lib.hid (H8.out.same (by rw[HNX.out];simp[itoaB]))⟩
      case measure=>simp[intOf];omega
     have e:j=3:=by omega
     subst e;have HEJ:=Lib.hid (a3i hwj.out.kept HE5.out (by omega) (by decide));have q3:=heap_cell (j:=3) HEJ.out rfl;have hnl:=a4v ⟨HBE.out.1,HBE.out.2.1,HBE.out.2.2.1⟩ 3 (by omega);have hll:=a5l HBE.out.2.2.2
     have HWS:=Lib.hid (afG w.heap.size (a1o (l.take k)++a1T en 3) (a05 en) wr hwj.out.bld (by
      have:=HTL.out;rw[List.length_append,a03];omega))
     have HWB:Hid (∀w7,Bld w.heap.size (a1o (l.take k)++a1T en 3++(a05 en).data.toList) w7->Calls Tryz.prog 92 #[.pointer (some ⟨w.heap.size,0,none⟩),.int .u8 10] w7 fun e w'=>e= .returned .nilIface/\Wrote w.heap.size (a1o (l.take k)++a1T en 3++(a05 en).data.toList++[10]) w7 w'):=Lib.hid (fun w7 h7=>afH w.heap.size _ 10 w7 h7 (by
      have:=HTL.out;rw[List.length_append,List.length_append];omega))
     clear hnl hll;go_wp2_with fail
     refine HWS.out.mono ?_;rintro e w7 ⟨rfl,hw7⟩;have H7:=Lib.hid hw7;clear hw7;go_wp2_with fail
     refine(HWB.out _ H7.out.bld).mono ?_
     rintro e w8 ⟨rfl,hw8⟩;have H8:=Lib.hid ((HW1.out.trans hwj.out).trans (H7.out.trans hw8));clear hw8;go_wp2;go_roundw
     case rel=>exact⟨k+1,by omega,by go_num,Lib.hid (H8.out.same (by rw[HTK.out,a86];simp))⟩
     case measure=>simp[intOf];omega
   have e:k=n:=by omega
   subst e;have HS:=Lib.hid (afI w.heap.size _ _ hw.out.bld);have HTT:Hid (a1o (l.take k)=a1o l):=Lib.hid (by rw[HN.out,List.take_length]);have HBF:=Lib.hid (HB2.out.trans hw.out.below);rw[HTT.out]at HS;go_wp2_with fail
   refine HS.out.mono ?_;rintro e w5 ⟨rfl,h5⟩;go_wp2;go_ret;exact⟨rfl,HBF.out.trans h5⟩
 have hz:l=[]:=List.length_eq_zero_iff.1 (by omega);subst hz;obtain⟨a0,c0,rfl⟩:=own_shape hl1;have HS:=Lib.hid (afI w.heap.size _ _ HBL.out);clear hl1 hnew;simp only[List.length_nil]at *;go_wp2_with fail
 go_loopw [11] (fun i wr=>i= .int .i64 0/\wr=w1) (fun i _=>0)
 case atStart=>exact⟨rfl,rfl⟩
 case round=>
  obtain⟨rfl,rfl⟩:=hrel;go_wp2_with fail
  refine HS.out.mono ?_;rintro e w5 ⟨rfl,h5⟩;go_wp2;go_ret;exact⟨rfl,HB2.out.trans h5⟩
end Go.Proofs.YtdfkaijeppdhaaaGreatDoor
namespace Go.Proofs.YtdfkaijeppdhaaaGreatDoor
open Go.RowKit Go.Shelf
theorem a88(a b:ByteArray):(a.toList==b.toList)=decide (a=b):=by
 by_cases h:a=b
 ·subst h;simp
 rw[ba_lne h,decide_eq_false h]
def a5m(q:Bool)(w:World)(e:Ending)(w':World):Prop:=e= .returned (.bool q)/\Below w.heap.size w w'
end Go.Proofs.YtdfkaijeppdhaaaGreatDoor
namespace Go.Proofs.YtdfkaijeppdhaaaGreatDoor
open Go.RowKit Go.Shelf
theorem Tryz.infoStr:(Tryz.prog.info? 9).map (fun i=>(i.zero,i.size,i.bytes))=some (some (.string ⟨#[]⟩),1,16):=by kernel_rfl
theorem afK{α β:Type}{f:α->Option β}{d:α}{l:List α}{k:Nat}(h:k<l.length):allS f (l.take (k+1))=match allS f (l.take k),f (l.getD k d)with
  |some ys,some y=>some (ys++[y])
  |_,_=>none:=by
 rw[List.take_succ_eq_append_getElem h,allS_snoc,List.getD_eq_getElem?_getD,List.getElem?_eq_getElem h,Option.getD_some];cases allS f (l.take k)<;>rfl
theorem afL{α β:Type}{f:α->Option β}{l:List α}{x:α}(hx:x∈l)(h:f x=none):allS f l=none:=allS_bad f l hx h
def a0h(ans:List ByteArray->ByteArray×Int)(names:List ByteArray)(kn:Kn):ByteArray×Int:=match allS kn.txt names with
 |none=>(emp,5)
 |some ts=>if (ans ts).2=0 then ((ans ts).1,0)else (emp,(ans ts).2)
def a0t(r:ByteArray×Int)(w:World)(e:Ending)(w':World):Prop:=e= .returned (.tuple #[.string r.1,.int .i64 r.2])/\Below w.heap.size w w'
theorem afM(gf:Nat)(eg:∀args w,(callFunc gf args).run Tryz.prog w= .ok (.enter gf args) w)(ans:List ByteArray->ByteArray×Int)(nv bv:Value)(names:List ByteArray)(ns:List Int)(a b n:Nat)(kn:Kn)(w:World)
  (hN:StrsAt w nv names)(hI:IntsAt w bv ns)(h0:0<names.length)(hl:names.length<=1000)(hsz:∀x∈names,x.size<=8)(hK:KnAt w a b n kn)
  (hans:∀W base tv ts,Below w.heap.size w W->base<=W.heap.size->W.ownsRow base 9 1 tv ts.length (ts.map Value.string)->allS kn.txt names=some ts->Calls Tryz.prog gf #[tv,bv] W (a0t (ans ts) W)):
  Calls Tryz.prog 338 #[.agg #[nv,bv,.func (.func gf) #[] #[]],knV a b] w (a0t (a0h ans names kn) w):=by
 obtain⟨i0,hi0,hz0,hz1,hz2⟩:=info_parts Tryz.infoStr;obtain⟨R,hR⟩:∃R,R=a0h ans names kn:=⟨_,rfl⟩
 have HR:=Lib.hid hR;rw[<-hR];clear hR;obtain⟨bk,off,cap,rfl,hcap,hcc,hq⟩:=hN.cons h0;obtain⟨ia,icap,hbv,_⟩:=id hI;obtain⟨w1,hw1⟩:∃w1,w1=(w.alloc (.cells #[.slice (some ⟨bk,off,none⟩) names.length cap,bv,.func (.func gf) #[] #[]] 185)).alloc (.cells #[.map (some a),.map (some b)] 102):=⟨_,rfl⟩
 have hb1:Below w.heap.size w w1:=by rw[hw1];exact((Below.refl _ w).alloc (Nat.le_refl _) _).alloc (by simp) _
 have HB1:=Lib.hid hb1;have HQ:=Lib.hid (fun j hj=>keep_cell hb1 (hq j hj));have HK1:=Lib.hid (hK.below hb1)
 have HE1:Hid (w1.heap[w.heap.size]? =some (.cells #[.slice (some ⟨bk,off,none⟩) names.length cap,bv,.func (.func gf) #[] #[]] 185 (0,0))):=Lib.hid (by
  rw[hw1];exact(Below.heap_alloc _ _ _ (by simp)).trans (World.alloc_heap_new w _))
 have HE2:Hid (w1.heap[w.heap.size+1]? =some (.cells #[.map (some a),.map (some b)] 102 (0,0))):=Lib.hid (by
  have:=World.alloc_heap_new (w.alloc (.cells #[.slice (some ⟨bk,off,none⟩) names.length cap,bv,.func (.func gf) #[] #[]] 185)) (.cells #[.map (some a),.map (some b)] 102);rw[World.size_alloc]at this;rw[hw1];exact this)
 have HANS:=Lib.hid hans;have HSZ:=Lib.hid hsz;have HZ1:Hid (w1.heap.size=w.heap.size+2):=Lib.hid (by rw[hw1];simp);have HW1:=Lib.hid hw1;obtain⟨nl,hnl⟩:∃nl,nl=names.length:=⟨_,rfl⟩
 have HN:=Lib.hid hnl;rw[<-hnl]at hcap h0 hl HE1 HW1⊢;clear hnl hw1 hb1 hN hI hK hans hsz hq;subst hbv;unfold knV;go_enter Tryz.func338,Tryz.ntmps338;go_wp2_with fail
 rw[<-HW1.out];have HL1:=Lib.hid HZ1.out;go_loopw [6,16] (fun o i wr=>∃(k:Nat) (ts:List ByteArray),k<=nl/\i= .int .i64 k/\Hid (allS kn.txt (names.take k)=some ts)/\Hid (ts.length=k)/\wr.ownsRow w1.heap.size 9 1 o k (ts.map Value.string)/\Below w1.heap.size w1 wr) (fun _ i _=>nl-(intOf i).toNat)
 case atStart=>exact⟨0,[],Nat.zero_le _,rfl,Lib.hid rfl,Lib.hid rfl,World.ownsRow_nil _ _ _ _,Below.refl _ _⟩
 case round=>
  obtain⟨k,ts,hk,rfl,hall,hlen,hown,hbel⟩:=hrel;have hsz1:=hbel.size;have e0:=keep_cell hbel (heap_cell (j:=0) HE1.out rfl);have e1:=keep_cell hbel (heap_cell (j:=1) HE1.out rfl);have e2:=keep_cell hbel (heap_cell (j:=2) HE1.out rfl);have e3:=keep_cell hbel (heap_cell (j:=0) HE2.out rfl);have e4:=keep_cell hbel (heap_cell (j:=1) HE2.out rfl);by_cases hlt:k<nl
  ·have hc:=keep_cell hbel (HQ.out k (by rw[<-HN.out];exact hlt));have HS:=Lib.hid (afK (f:=kn.txt) (d:=emp) (l:=names) (k:=k) (by rw[<-HN.out];exact hlt));have hmem:names.getD k emp∈names:=by rw[List.getD_eq_getElem?_getD,List.getElem?_eq_getElem (by rw[<-HN.out];exact hlt)];exact List.getElem_mem _
   have HM:=Lib.hid hmem;have HXS:=HSZ.out _ hmem;clear hmem;generalize names.getD k emp=x at *;have hlook:=(HK1.out.below hbel).look x (by omega)
   have HB:=Lib.hid hbel;have HO:=Lib.hid hown;clear hbel hown;cases hx:kn.txt x with
   |some y=>
    rw[hx]at HS hlook;unfold txtV at hlook;simp only[Option.getD_some,Option.isSome_some]at hlook;clear hx;go_wp2_with (at_builtin;refine wpList_append_own _ rfl _ _ 22 rfl w1.heap.size 9 i0 (.string ⟨#[]⟩) 1 16 Tryz.underlying22 hi0 hz0 hz1 hz2 rfl (by decide) _ _ _ rfl (HO.out.alloc _) ⟨wr.heap.size,0,none⟩ 1 1 [.string y] rfl rfl ?c1 ?c2 ?c3 ?c4 ?c5 ?_)
    case c1=>exact(a07 _ _ _)
    case c2=>intro u hu;simp at hu;subst hu;rfl
    case c3=>unfold maxLen;omega
    case c4=>omega
    case c5=>simp;omega
    intro v' w2 hown' hgrow _;have R:=below_append HB.out hsz1 HO.out (Nat.le_refl _) hgrow;clear hgrow;go_wp2;go_roundw
    case rel=>exact⟨k+1,ts++[y],by omega,by go_num,Lib.hid (by rw[HS.out,hall.out]),Lib.hid (by rw[List.length_append,hlen.out];rfl),by rw[List.map_append];exact hown',R⟩
    case measure=>simp[intOf];omega
   |none=>
    have HRX:Hid (R=(emp,5)):=Lib.hid (by rw[HR.out];unfold a0h;rw[afL HM.out hx]);rw[hx]at hlook;unfold txtV emp at hlook;simp only[Option.getD_none,Option.isSome_none]at hlook;clear hx;go_wp2;go_ret2;rw[HRX.out];exact⟨rfl,HB1.out.trans (HB.out.mono HB1.out.size)⟩
  have e:k=nl:=by omega
  subst e
  have hts:allS kn.txt names=some ts:=by
   have:=hall.out;rw[HN.out,List.take_length]at this;exact this
  have HB:=Lib.hid (HB1.out.trans (hbel.mono HB1.out.size));have HA:=Lib.hid (HANS.out wr w1.heap.size _ ts HB.out hsz1 (by rw[hlen.out];exact hown) hts);have HRR:Hid (R=if (ans ts).2=0 then ((ans ts).1,0)else (emp,(ans ts).2)):=Lib.hid (by rw[HR.out];unfold a0h;rw[hts]);clear hown hbel hts;generalize ans ts=r at *;obtain⟨rs,re⟩:=r;by_cases hz:re=0
  ·subst hz;have HRX:Hid (R=(rs,0)):=Lib.hid (by rw[HRR.out];rfl);go_wp2_with fail
   refine HA.out.mono ?_;rintro e w5 ⟨rfl,h5⟩;go_wp2;go_ret2;rw[HRX.out];exact⟨rfl,below_trans HB.out h5⟩
  have HRX:Hid (R=(emp,re)):=Lib.hid (by rw[HRR.out];simp only;rw[if_neg hz]);have z0:(re != 0)=true:=by simpa using hz
  go_wp2_with fail
  refine HA.out.mono ?_;rintro e w5 ⟨rfl,h5⟩;go_wp2;go_ret2;rw[HRX.out];exact⟨rfl,below_trans HB.out h5⟩
def a1N(ts:List ByteArray):ByteArray×Int:=(ts.getD 0 emp,0)
theorem afN(W:World)(base:Nat)(tv bv:Value)(ts:List ByteArray)(h:W.ownsRow base 9 1 tv ts.length (ts.map Value.string))(h0:0<ts.length)(hl:ts.length<=1000):Calls Tryz.prog 116 #[tv,bv] W (a0t (a1N ts) W):=by
 rcases h.2 with⟨_,h1⟩|⟨g,cap,cur,rfl,_⟩
 ·omega
 have c0:=h.cellAt 0 (by omega);rw[List.getElem?_map,List.getElem?_eq_getElem h0]at c0;have hx:a1N ts=(ts[0],0):=by unfold a1N;rw[List.getD_eq_getElem?_getD,List.getElem?_eq_getElem h0];rfl
 rw[hx];generalize ts[0]=x at *;generalize ts.length=n at *;simp only[Option.map_some]at c0;clear h hx;go_enter Tryz.func116,Tryz.ntmps116;go_wp2;go_ret2;exact⟨rfl,Below.refl _ _⟩
end Go.Proofs.YtdfkaijeppdhaaaGreatDoor
namespace Go.Proofs.YtdfkaijeppdhaaaGreatDoor
open Go.RowKit Go.Shelf
theorem a89(P n:Nat)(F:List Nat)(b:Book)(line:ByteArray)(hs:line.size<=1000000)(w:World)(h:PostAt w P F n b)(hV:Vars w)(hd:Cmd.askO (a02 line)=false):
  Calls Tryz.prog 36 #[.pointer (some ⟨P,0,none⟩),.string line] w (a0t (emp,100) w):=by
 obtain⟨K,vs,hP,hvs,hF⟩:=h.parts;have HN:=Lib.hid (a16 P K n _ w hP);have HA:=Lib.hid (a1f line hs w hV);have HD:=Lib.hid hd;clear h hP hvs hF hV hd;unfold emp;go_enter Tryz.func36,Tryz.ntmps36;go_wp2_with fail
 refine HN.out.mono ?_;rintro e w1 ⟨rfl,rfl⟩;go_wp2_with fail
 refine HA.out.mono ?_;rintro e w1 ⟨⟨pv,rfl,hpv⟩,hb1⟩;have hta:=a36 hpv w1;rw[HD.out]at hta;unfold ifV at hta;simp only[Bool.false_eq_true,if_false]at hta;have HB1:=Lib.hid hb1;clear hpv hb1;go_wp2;go_ret2;exact⟨rfl,HB1.out⟩
theorem adL(ans:List ByteArray->ByteArray×Int)(names:List ByteArray)(kn:Kn):(a0h ans names kn).2≠0->(a0h ans names kn).1=emp:=by
 unfold a0h;split
 ·exact fun _=>rfl
 split
 ·exact fun h=>absurd rfl h
 exact fun _=>rfl
theorem a3X(P n:Nat)(F:List Nat)(b:Book)(line:ByteArray)(hs:line.size<=1000000)(w:World)(h:PostAt w P F n b)(hok:a08 b)(hV:Vars w)(k:Nat)(names:List ByteArray)(ns:List Int)(hc:a02 line=some (.asked k names ns))
  (h0:0<names.length)(hl:names.length<=1000)(ans:List ByteArray->ByteArray×Int)(eg:∀args w,(callFunc (a3U k) args).run Tryz.prog w= .ok (.enter (a3U k) args) w)
  (hans:∀W base tv bv ts,Below w.heap.size w W->base<=W.heap.size->W.ownsRow base 9 1 tv ts.length (ts.map Value.string)->IntsAt W bv ns->allS (a06 (allB b)).txt names=some ts->Calls Tryz.prog (a3U k) #[tv,bv] W (a0t (ans ts) W)):
  Calls Tryz.prog 36 #[.pointer (some ⟨P,0,none⟩),.string line] w (a0t (a0h ans names (a06 (allB b))) w):=by
 have HSM:=Lib.hid ((Cmd.names_small hc).2.2.2.2.2 k names ns rfl);have HANS:=Lib.hid hans;clear hans;obtain⟨R,hR⟩:∃R,R=a0h ans names (a06 (allB b)):=⟨_,rfl⟩
 have HNM:=Lib.hid (adL ans names (a06 (allB b)));have HR:=Lib.hid hR;rw[<-hR];clear hR;obtain⟨K,vs,hP,hvs,hF⟩:=h.parts;have HN:=Lib.hid (a16 P K n _ w hP);have HA:=Lib.hid (a1f line hs w hV);have HC:=Lib.hid hc;have HPC:=Lib.hid hP;have HVS:=Lib.hid hvs;have HVR:=Lib.hid hV;have HOK:=Lib.hid hok;clear h hP hvs hF hV hok hc;go_enter Tryz.func36,Tryz.ntmps36;go_wp2_with fail
 refine HN.out.mono ?_;rintro e w1 ⟨rfl,rfl⟩;go_wp2_with fail
 refine HA.out.mono ?_;rintro e w1 ⟨⟨pv,rfl,hpv⟩,hb1⟩;have hta:=a36 hpv w1;rw[HC.out]at hta hpv;rw[show Cmd.askO (some (.asked k names ns))=true from rfl]at hta;unfold ifV at hta;simp only[if_true]at hta;have HPV:=Lib.hid hpv;have HB1:=Lib.hid hb1;have HV1:=Lib.hid (HVR.out.below hb1);have r4:∀W,KB w1 W->W.cell? ⟨P,0,none⟩=some (.pointer (some ⟨K,0,none⟩)):=fun W hW=>keep_cell hW (keep_cell hb1 (heap_cell HPC.out rfl));have HALL:=Lib.hid (fun W (hW:KB w1 W)=>a2W K _ b W ((HVS.out.below HB1.out).below hW).at HOK.out);have HENT:Hid (∀e∈allB b,(a05 e).size<=60):=Lib.hid (fun e he=>((a0T _).1 (by rw[<-a1J];exact(a0Z HOK.out he).2.2.2)).1);have HLEN:Hid ((allB b).length<=1000):=Lib.hid (by rw[a10];have:=a1w HOK.out;omega);clear hpv hb1;go_wp2;obtain⟨a1,b1,rfl,hs1,hi1⟩:=HPV.out;have hme:∀w,(method 462 185 (.agg #[a1,b1,.func (.func (a3U k)) #[] #[]]) "skimmer/post.ask").run Tryz.prog w= .ok (338,.agg #[a1,b1,.func (.func (a3U k)) #[] #[]]) w:=fun w=>aaO _ w
 have hah:∀w,(nilAhead 462 185 (.agg #[a1,b1,.func (.func (a3U k)) #[] #[]]) "skimmer/post.ask").run Tryz.prog w= .ok (some false) w:=fun w=>aci _ w
 have HS1:=Lib.hid hs1;have HI1:=Lib.hid hi1;have HRR:=Lib.hid (show a0h ans names (a06 (allB b))=R from HR.out.symm);clear hs1 hi1 hta;generalize a3U k=gf at *;have HAK:=Lib.hid (fun W (hW:KB w1 W) ka kb (hk:KnAt W ka kb (allB b).length (a06 (allB b)))=>afM gf eg ans a1 b1 names ns ka kb _ _ W (HS1.out.below hW) (HI1.out.below hW) h0 hl HSM.out hk (fun W2 base tv ts hb2 hbs hrow hts=>HANS.out W2 base tv b1 ts (below_trans HB1.out (hW.trans (hb2.mono hW.size))) hbs hrow ((HI1.out.below hW).below hb2) hts));rw[HRR.out]at HAK
 go_region_held3 (fun W=>KB w1 W) (first|exact KB.refl _|exact KB.drew (KB.refl _)|assumption|exact KB.drew (by assumption)|fail) (first
  |(go_at_call 57;refine(HALL.out _ (by first|exact KB.refl _|exact KB.drew (KB.refl _)|assumption)).mono ?_;rintro e w5 ⟨v5,rfl,hl5,ho5,hb5⟩;have q5:KB w1 w5:=KB.call (KB.drew (KB.refl _)) hb5;have HSY:=Lib.hid (a2N v5 (allB b) w5 (hl5.ents (by have:=HLEN.out;omega)) HLEN.out HENT.out (HV1.out.below q5));clear hl5 ho5 hb5)
  |(go_at_call 56;refine HSY.out.mono ?_;rintro e w6 ⟨ka,kb,rfl,hk6,hka,hkb,hb6⟩;have q6:KB w1 w6:=KB.call q5 hb6;have HK6:=Lib.hid hk6;have HV6:=Lib.hid (HV1.out.below q6);clear hk6 hka hkb hb6)
  |(go_at_call 338;refine(HAK.out _ q6 _ _ HK6.out).mono ?_;rintro e w7 ⟨rfl,hb7⟩;have q7:KB w1 w7:=KB.call q6 hb7;clear hb7)
  |fail)
 all_goals (
  rw[HRR.out]at HNM;obtain⟨rs,re⟩:=R;by_cases hz:re=0
  ·subst hz;go_wp2;go_ret2;exact⟨rfl,below_trans HB1.out q7⟩
  have z0:(re != 0)=true:=by simpa using hz
  have hem:rs=emp:=HNM.out hz;subst hem;go_wp2;go_ret2;exact⟨rfl,below_trans HB1.out q7⟩)
end Go.Proofs.YtdfkaijeppdhaaaGreatDoor
namespace Go.Proofs.YtdfkaijeppdhaaaGreatDoor
open Go.RowKit Go.Shelf
def a3G(line:ByteArray):ByteArray:=⟨(Lib.cut line.data.toList [32]).1.toArray⟩
def a0z(line:ByteArray):ByteArray:=⟨(Lib.cut line.data.toList [32]).2.1.toArray⟩
def aaw:List UInt8:=[106,111,105,110,32]
def a1X(s:ByteArray):Bool:=Lib.hasPrefix s.data.toList aaw
def a2l(s:ByteArray):ByteArray:=⟨(Lib.trimPrefix s.data.toList aaw).toArray⟩
def setN(bs:Nat->Book)(i:Nat)(c:Book):Nat->Book:=fun j=>if j=i then c else bs j
def a1r(s:ByteArray):Option Nat:=match numV s with
 |some n=>if betw 0 n 3 then some n.toNat else none
 |none=>none
def a12(askB:Book->ByteArray->ByteArray×Int)(bs:Nat->Book)(line:ByteArray):(ByteArray×Int)×(Nat->Book):=match a1r (a3G line)with
 |none=>((emp,100),bs)
 | some n=>if a1X (a0z line)then (match a1r (a2l (a0z line))with
   |none=>((emp,100),bs)
   |some k=>((itoaB (lenB (a0x (bs n) (bs k)).2:Int),(a0x (bs n) (bs k)).1),setN bs n (a0x (bs n) (bs k)).2))
  else if Cmd.deedO (a02 (a0z line))then (((doB (bs n) n (a0z line)).1,(doB (bs n) n (a0z line)).2.1),setN bs n (doB (bs n) n (a0z line)).2.2)
  else if Cmd.askO (a02 (a0z line))then (askB (bs n) (a0z line),bs)
  else ((emp,100),bs)
theorem a5n{s:ByteArray}{n:Nat}(h:a1r s=some n):numV s=some (n:Int)/\n<4:=by
 unfold a1r at h;cases hn:numV s with
 |none=>rw[hn]at h;cases h
 | some v=>
  rw[hn]at h;simp only at h;split at h
  ·rename_i hb
   rw[betw_iff]at hb;injection h with h
   subst h;exact⟨by rw[Int.toNat_of_nonneg hb.1],by omega⟩
  cases h
theorem acV(l sep:List UInt8):(Lib.cut l sep).1.length<=l.length/\(Lib.cut l sep).2.1.length<=l.length:=by
 unfold Lib.cut;split<;>simp
 omega
theorem adM(s:ByteArray):(a3G s).size<=s.size:=by
 have:=(acV s.data.toList [32]).1
 rw[a03,a03];exact this
theorem a9C(s:ByteArray):(a0z s).size<=s.size:=by
 have:=(acV s.data.toList [32]).2
 rw[a03,a03];exact this
theorem adN(s:ByteArray):(a2l s).size<=s.size:=by
 rw[a03,a03];unfold a2l Lib.trimPrefix;split<;>simp
def U(ps:Nat->Pst):List Nat:=(ps 0).F++((ps 1).F++((ps 2).F++(ps 3).F))
theorem mem_U{ps:Nat->Pst}{k:Nat}:k∈U ps↔∃i,i<4/\k∈(ps i).F:=by
 unfold U;simp only[List.mem_append];refine⟨fun h=>?_,fun⟨i,hi,h⟩=>?_⟩
 ·rcases h with h|h|h|h
  ·exact⟨0,by omega,h⟩
  ·exact⟨1,by omega,h⟩
  ·exact⟨2,by omega,h⟩
  exact⟨3,by omega,h⟩
 rcases (show i=0\/i=1\/i=2\/i=3 by omega)with rfl|rfl|rfl|rfl
 ·exact .inl h
 ·exact .inr (.inl h)
 ·exact .inr (.inr (.inl h))
 exact .inr (.inr (.inr h))
structure PostsAt(w:World)(S:Nat)(ps:Nat->Pst):Prop where
 posts:Posts w 4 ps
 row:∀j,j<4->w.cell? ⟨S,j,none⟩=some (.pointer (some ⟨(ps j).P,0,none⟩))
 own:S∉U ps
 ok:∀j,j<4->a08 (ps j).b
 num:∀j,j<4->(ps j).n=j
theorem PostsAt.lt{w:World}{S:Nat}{ps:Nat->Pst}(h:PostsAt w S ps):S<w.heap.size:=World.block_lt_of_cell? _ _ (h.row 0 (by omega))
theorem PostsAt.below{w w':World}{S:Nat}{ps:Nat->Pst}(h:PostsAt w S ps)(hb:Below w.heap.size w w'):PostsAt w' S ps:=
 ⟨h.posts.below hb,fun j hj=>keep_cell hb (h.row j hj),h.own,h.ok,h.num⟩
structure Turn(w:World)(S:Nat)(ps:Nat->Pst)(bs:Nat->Book)(w':World):Prop where
 ex:∃ps',PostsAt w' S ps'/\(∀j,j<4->(ps' j).b=bs j)/\a2y w (U ps) (U ps')/\Off (U ps) w w'
theorem Turn.refl{w:World}{S:Nat}{ps:Nat->Pst}(h:PostsAt w S ps){w':World}(hb:Below w.heap.size w w'):Turn w S ps (fun j=>(ps j).b) w':=
 ⟨ps,h.below hb,fun _ _=>rfl,a1G _ _,Off.of_below hb⟩
theorem PostsAt.turn{w w':World}{S:Nat}{ps:Nat->Pst}(h:PostsAt w S ps){i:Nat}(hi:i<4){F':List Nat}{c:Book}(hp:PostAt w' (ps i).P F' i c)(hF:a2y w (ps i).F F')(ho:Off (ps i).F w w')(hc:a08 c):
  PostsAt w' S (setS ps i ⟨(ps i).P,F',i,c⟩)/\a2y w (U ps) (U (setS ps i ⟨(ps i).P,F',i,c⟩))/\Off (U ps) w w':=by
 have hin:∀k,k∈(ps i).F->k∈U ps:=fun k hk=>mem_U.2 ⟨i,hi,hk⟩
 have hU:a2y w (U ps) (U (setS ps i ⟨(ps i).P,F',i,c⟩)):=fun k hk=>by
  obtain⟨j,hj,hk⟩:=mem_U.1 hk;by_cases e:j=i
  ·subst e;rw[a0F]at hk;exact(hF k hk).imp (hin k) id
  rw[a0n _ _ e]at hk;exact .inl (mem_U.2 ⟨j,hj,hk⟩)
 have hS:=h.lt;refine⟨⟨h.posts.turn hi (p:=⟨(ps i).P,F',i,c⟩) hp hF ho,fun j hj=>?_,fun hm=>?_,fun j hj=>?_,fun j hj=>?_⟩,hU,ho.mono fun k hk=>.inl (hin k hk)⟩
 ·rw[World.cell?_of_block (ho.block S hS fun hm=>h.own (hin S hm)),h.row j hj];by_cases e:j=i
  ·subst e;rw[a0F]
  rw[a0n _ _ e]
 ·rcases hU S hm with h1|h1
  ·exact h.own h1
  omega
 ·by_cases e:j=i
  ·subst e;rw[a0F];exact hc
  rw[a0n _ _ e];exact h.ok j hj
 by_cases e:j=i
 ·subst e;rw[a0F]
 rw[a0n _ _ e];exact h.num j hj
theorem Turn.of{w w':World}{S:Nat}{ps:Nat->Pst}(h:PostsAt w S ps){i:Nat}(hi:i<4){c:Book}(hx:∃F',PostAt w' (ps i).P F' i c/\a2y w (ps i).F F'/\Off (ps i).F w w')(hc:a08 c){bs:Nat->Book}(hbs:∀j,j<4->bs j=(ps j).b):Turn w S ps (setN bs i c) w':=by
 obtain⟨F',h1,h2,h3⟩:=hx;obtain⟨k1,k2,k3⟩:=h.turn hi h1 h2 h3 hc;refine⟨_,k1,fun j hj=>?_,k2,k3⟩;unfold setN;by_cases e:j=i
 ·subst e;rw[a0F,if_pos rfl]
 rw[a0n _ _ e,if_neg e,hbs j hj]
theorem Turn.more{w w' w'':World}{S:Nat}{ps:Nat->Pst}{bs:Nat->Book}(h:Turn w S ps bs w')(hb:Below w'.heap.size w' w''):Turn w S ps bs w'':=by
 obtain⟨ps',h1,h2,h3,h4⟩:=h.ex;refine⟨ps',h1.below hb,h2,h3,⟨hb.os.trans h4.os,hb.tape.trans h4.tape,hb.output.trans h4.output,Nat.le_trans h4.size hb.size,fun k hk hn=>(hb.block k (Nat.lt_of_lt_of_le hk h4.size)).trans (h4.block k hk hn)⟩⟩
theorem Turn.ahead{w0 w w':World}{S:Nat}{ps:Nat->Pst}{bs:Nat->Book}(hb:Below w0.heap.size w0 w)(h:Turn w S ps bs w'):Turn w0 S ps bs w':=by
 obtain⟨ps',h1,h2,h3,h4⟩:=h.ex;refine⟨ps',h1,h2,fun k hk=>(h3 k hk).imp id (fun h=>Nat.le_trans hb.size h),⟨h4.os.trans hb.os,h4.tape.trans hb.tape,h4.output.trans hb.output,Nat.le_trans hb.size h4.size,fun k hk hn=>(h4.block k (Nat.lt_of_lt_of_le hk hb.size) hn).trans (hb.block k hk)⟩⟩
def a7r(w:World)(S:Nat)(ps:Nat->Pst)(r:(ByteArray×Int)×(Nat->Book))(e:Ending)(w':World):Prop:=
 e= .returned (.tuple #[.string r.1.1,.int .i64 r.1.2])/\Turn w S ps r.2 w'
end Go.Proofs.YtdfkaijeppdhaaaGreatDoor
namespace Go.Proofs.YtdfkaijeppdhaaaGreatDoor
open Go.RowKit Go.Shelf
theorem aiU(line:ByteArray)(hs:line.size<=1000000)(w:World)(hV:Vars w):
  Calls Tryz.prog 80 #[.string line,.string ⟨#[32]⟩] w fun e w'=>e= .returned (.tuple #[.string (a3G line),.string (a0z line),.bool (Lib.cut line.data.toList [32]).2.2])/\Below w.heap.size w w':=by
 obtain⟨m,hm⟩:=hV.ml;refine(Tryz.strings_Cut line ⟨#[32]⟩ m w (by omega) hm).mono ?_
 rintro e w' ⟨rfl,n,rfl⟩;exact⟨rfl,a0d (Below.refl _ _) _⟩
theorem aam(s:ByteArray)(w:World):
  Calls Tryz.prog 82 #[.string s,.string ⟨#[106,111,105,110,32]⟩] w fun e w'=>e= .returned (.tuple #[.string (a2l s),.bool (a1X s)])/\w=w':=by
 refine(Tryz.strings_CutPrefix s ⟨#[106,111,105,110,32]⟩ w).mono ?_
 rintro e w' ⟨rfl,rfl⟩;exact⟨rfl,rfl⟩
theorem aaZ{s:ByteArray}(h:numV s=none):a1r s=none:=by unfold a1r;rw[h]
theorem a6c{s:ByteArray}{v:Int}(h:numV s=some v)(hb:betw 0 v 3=false):a1r s=none:=by unfold a1r;rw[h];simp[hb]
theorem a7s{s:ByteArray}{v:Int}(h:numV s=some v)(hb:betw 0 v 3=true):a1r s=some v.toNat:=by unfold a1r;rw[h];simp[hb]
theorem ab0(askB:Book->ByteArray->ByteArray×Int)(line:ByteArray)(hs:line.size<=1000000)(w:World)(S cap:Nat)(ps:Nat->Pst)(h:PostsAt w S ps)
  (hask:∀i W,i<4->a1r (a3G line)=some i->Cmd.askO (a02 (a0z line))=true->Below w.heap.size w W->Calls Tryz.prog 36 #[.pointer (some ⟨(ps i).P,0,none⟩),.string (a0z line)] W (a0t (askB (ps i).b (a0z line)) W)):
  Calls Tryz.prog 47 #[.slice (some ⟨S,0,none⟩) 4 cap,.string line] w (a7r w S ps (a12 askB (fun j=>(ps j).b) line)):=by
 have hsf:=adM line;have hsr:=a9C line;have hso:=adN (a0z line);have HCU:=Lib.hid (aiU line hs w h.posts.vars);have HP:=Lib.hid h;have HASK:=Lib.hid hask;clear hask h;obtain⟨R,hR⟩:∃R,R=a12 askB (fun j=>(ps j).b) line:=⟨_,rfl⟩
 have HR:=Lib.hid hR;rw[<-hR];unfold a12 at HR;clear hR;obtain⟨q2,hq2⟩:∃q,q=(Lib.cut line.data.toList [32]).2.2:=⟨_,rfl⟩
 rw[<-hq2]at HCU;clear hq2;generalize a3G line=fw at *;generalize a0z line=rw0 at *;have HCP:=Lib.hid (fun W=>aam rw0 W);cases hn:numV fw with
 |none=>
  have HNO:=Lib.hid (fun W (hW:KB w W)=>a61 fw hn (by omega) W (HP.out.posts.vars.below hW));have HRX:Hid (R=((emp,100),fun j=>(ps j).b)):=Lib.hid (by rw[HR.out,aaZ hn]);unfold adz at HNO;clear hn;go_enter Tryz.func47,Tryz.ntmps47;go_wp2_with fail
  refine HCU.out.mono ?_;rintro e w1 ⟨rfl,hb1⟩;have HB1:=Lib.hid hb1;have HP1:=Lib.hid (HP.out.below hb1);clear hb1;go_wp2_with fail
  refine(HNO.out _ HB1.out).mono ?_
  rintro e w2 ⟨y,rfl,hb2⟩;have HB2:=Lib.hid (KB.call HB1.out hb2);clear hb2;go_wp2;go_ret2;rw[HRX.out];exact⟨rfl,Turn.refl HP.out HB2.out⟩
 | some v=>
  have HNO:=Lib.hid (fun W (hW:KB w W)=>a60 fw v hn (by omega) W (HP.out.posts.vars.below hW));cases hb:betw 0 v 3 with
  |false=>
   have HRX:Hid (R=((emp,100),fun j=>(ps j).b)):=Lib.hid (by rw[HR.out,a6c hn hb]);have HBT:=Lib.hid hb;clear hn hb;go_enter Tryz.func47,Tryz.ntmps47;go_wp2_with fail
   refine HCU.out.mono ?_;rintro e w1 ⟨rfl,hb1⟩;have HB1:=Lib.hid hb1;have HP1:=Lib.hid (HP.out.below hb1);clear hb1;go_wp2_with fail
   refine(HNO.out _ HB1.out).mono ?_
   rintro e w2 ⟨rfl,hb2⟩;have HB2:=Lib.hid (KB.call HB1.out hb2);clear hb2;go_wp2_with fail
   refine(between_any _ _ _ _).mono ?_
   rintro e w3 ⟨rfl,rfl⟩;rw[HBT.out];go_wp2;go_ret2;rw[HRX.out];exact⟨rfl,Turn.refl HP.out HB2.out⟩
  | true=>
   obtain⟨hv0,hv3⟩:=(betw_iff _ _ _).1 hb
   obtain⟨n,rfl⟩:∃n:Nat,v=(n:Int):=⟨v.toNat,(Int.toNat_of_nonneg hv0).symm⟩
   have hpv:a1r fw=some n:=by rw[a7s hn hb];simp
   have HPV:=Lib.hid hpv;have hn4:n<4:=by omega
   have i2:(n:Int)<4:=by omega
   have HBT:=Lib.hid hb;rw[hpv]at HR;simp only at HR;clear hn hb hpv;cases hj:a1X rw0 with
   | true=>
    rw[hj]at HCP HR;simp only[if_true]at HR;generalize a2l rw0=ow at *;clear hj;cases hn2:numV ow with
    |none=>
     have HNX:=Lib.hid (fun W (hW:KB w W)=>a61 ow hn2 (by omega) W (HP.out.posts.vars.below hW));have HRX:Hid (R=((emp,100),fun j=>(ps j).b)):=Lib.hid (by rw[HR.out,aaZ hn2]);unfold adz at HNX;clear hn2;go_enter Tryz.func47,Tryz.ntmps47;go_wp2_with fail
     refine HCU.out.mono ?_;rintro e w1 ⟨rfl,hb1⟩;have HB1:=Lib.hid hb1;have HP1:=Lib.hid (HP.out.below hb1);clear hb1;go_wp2_with fail
     refine(HNO.out _ HB1.out).mono ?_
     rintro e w2 ⟨rfl,hb2⟩;have HB2:=Lib.hid (KB.call HB1.out hb2);clear hb2;have c0:=keep_cell HB2.out (HP.out.row n hn4);go_wp2_with fail
     refine(between_any _ _ _ _).mono ?_
     rintro e w3 ⟨rfl,rfl⟩;rw[HBT.out];go_wp2_with fail
     refine(HCP.out _).mono ?_
     rintro e w4 ⟨rfl,rfl⟩;go_wp2_with fail
     refine(HNX.out _ HB2.out).mono ?_
     rintro e w5 ⟨y,rfl,hb5⟩;have HB5:=Lib.hid (KB.call HB2.out hb5);clear hb5;go_wp2;go_ret2;rw[HRX.out];exact⟨rfl,Turn.refl HP.out HB5.out⟩
    | some v2=>
     have HNX:=Lib.hid (fun W (hW:KB w W)=>a60 ow v2 hn2 (by omega) W (HP.out.posts.vars.below hW));cases hb2x:betw 0 v2 3 with
     |false=>
      have HRX:Hid (R=((emp,100),fun j=>(ps j).b)):=Lib.hid (by rw[HR.out,a6c hn2 hb2x]);have HBX:=Lib.hid hb2x;clear hn2 hb2x;go_enter Tryz.func47,Tryz.ntmps47;go_wp2_with fail
      refine HCU.out.mono ?_;rintro e w1 ⟨rfl,hb1⟩;have HB1:=Lib.hid hb1;have HP1:=Lib.hid (HP.out.below hb1);clear hb1;go_wp2_with fail
      refine(HNO.out _ HB1.out).mono ?_
      rintro e w2 ⟨rfl,hb2⟩;have HB2:=Lib.hid (KB.call HB1.out hb2);clear hb2;have c0:=keep_cell HB2.out (HP.out.row n hn4);go_wp2_with fail
      refine(between_any _ _ _ _).mono ?_
      rintro e w3 ⟨rfl,rfl⟩;rw[HBT.out];go_wp2_with fail
      refine(HCP.out _).mono ?_
      rintro e w4 ⟨rfl,rfl⟩;go_wp2_with fail
      refine(HNX.out _ HB2.out).mono ?_
      rintro e w5 ⟨rfl,hb5⟩;have HB5:=Lib.hid (KB.call HB2.out hb5);clear hb5;go_wp2_with fail
      refine(between_any _ _ _ _).mono ?_
      rintro e w6 ⟨rfl,rfl⟩;rw[HBX.out];go_wp2;go_ret2;rw[HRX.out];exact⟨rfl,Turn.refl HP.out HB5.out⟩
     |true=>
      obtain⟨hk0,hk3⟩:=(betw_iff _ _ _).1 hb2x
      obtain⟨k,rfl⟩:∃k:Nat,v2=(k:Int):=⟨v2.toNat,(Int.toNat_of_nonneg hk0).symm⟩
      have hk4:k<4:=by omega
      have i3:(k:Int)<4:=by omega
      have hpk:a1r ow=some k:=by rw[a7s hn2 hb2x];simp
      rw[hpk]at HR;simp only at HR;have HBX:=Lib.hid hb2x;have HOKJ:=Lib.hid (aaX (HP.out.ok n hn4) (HP.out.ok k hk4));have HJ:=Lib.hid (fun W (hW:KB w W)=>afE (ps n).P n (ps n).F (ps n).b (ps k).P k (ps k).F (ps k).b W (by have h9:=(HP.out.below hW).posts.post n hn4;rw[HP.out.num n hn4]at h9;exact h9) (by have h9:=(HP.out.below hW).posts.post k hk4;rw[HP.out.num k hk4]at h9;exact h9) (HP.out.ok n hn4) (HP.out.ok k hk4));clear hn2 hb2x hpk;generalize a0x (ps n).b (ps k).b=jr at *
      obtain⟨jre,jrb⟩:=jr;go_enter Tryz.func47,Tryz.ntmps47;go_wp2_with fail
      refine HCU.out.mono ?_;rintro e w1 ⟨rfl,hb1⟩;have HB1:=Lib.hid hb1;have HP1:=Lib.hid (HP.out.below hb1);clear hb1;go_wp2_with fail
      refine(HNO.out _ HB1.out).mono ?_
      rintro e w2 ⟨rfl,hb2⟩;have HB2:=Lib.hid (KB.call HB1.out hb2);clear hb2;have c0:=keep_cell HB2.out (HP.out.row n hn4);go_wp2_with fail
      refine(between_any _ _ _ _).mono ?_
      rintro e w3 ⟨rfl,rfl⟩;rw[HBT.out];go_wp2_with fail
      refine(HCP.out _).mono ?_
      rintro e w4 ⟨rfl,rfl⟩;go_wp2_with fail
      refine(HNX.out _ HB2.out).mono ?_
      rintro e w5 ⟨rfl,hb5⟩;have HB5:=Lib.hid (KB.call HB2.out hb5);clear hb5;have c1:=keep_cell HB5.out (HP.out.row k hk4);go_wp2_with fail
      refine(between_any _ _ _ _).mono ?_
      rintro e w6 ⟨rfl,rfl⟩;rw[HBX.out];go_wp2_with fail
      refine(HJ.out _ HB5.out).mono ?_
      rintro e w7 ⟨rfl,hex⟩;have HT:=Lib.hid (Turn.ahead HB5.out (Turn.of (HP.out.below HB5.out) hn4 hex HOKJ.out (bs:=fun j=>(ps j).b) (fun j hj=>rfl)));obtain⟨F',hpa,_,_⟩:=hex;have HBK:=Lib.hid (afD (ps n).P n F' jrb w7 hpa HOKJ.out);have hV7:Vars w7:=by obtain⟨ps',h1,_⟩:=HT.out.ex;exact h1.posts.vars
      have HV7:=Lib.hid hV7;clear hpa hV7;go_wp2_with fail
      refine HBK.out.mono ?_;rintro e w8 ⟨lv,rfl,hl8,ho8,hb8⟩;obtain⟨la,lc,rfl⟩:=own_shape hl8;have hll:(allB jrb).length=lenB jrb:=a10 jrb
      have hle:=a1w HOKJ.out;have HB8:=Lib.hid hb8;have HI:=Lib.hid (itoa_any ((lenB jrb:Nat):Int) (by omega) (by omega) w8 (HV7.out.below hb8));clear hl8 ho8 hb8;rw[hll];go_wp2_with fail
      refine HI.out.mono ?_;rintro e w9 ⟨rfl,hb9⟩;have HB9:=Lib.hid (below_trans HB8.out hb9);clear hb9;go_wp2;go_ret2;rw[HR.out];exact⟨rfl,HT.out.more HB9.out⟩
   | false=>
    rw[hj]at HCP HR;simp only[Bool.false_eq_true,if_false]at HR;clear hj;generalize a2l rw0=ow at *;have HPA:=Lib.hid (fun W (hW:KB w W)=>a1f rw0 (by omega) W (HP.out.posts.vars.below hW));go_enter Tryz.func47,Tryz.ntmps47;go_wp2_with fail
    refine HCU.out.mono ?_;rintro e w1 ⟨rfl,hb1⟩;have HB1:=Lib.hid hb1;have HP1:=Lib.hid (HP.out.below hb1);clear hb1;go_wp2_with fail
    refine(HNO.out _ HB1.out).mono ?_
    rintro e w2 ⟨rfl,hb2⟩;have HB2:=Lib.hid (KB.call HB1.out hb2);clear hb2;have c0:=keep_cell HB2.out (HP.out.row n hn4);go_wp2_with fail
    refine(between_any _ _ _ _).mono ?_
    rintro e w3 ⟨rfl,rfl⟩;rw[HBT.out];go_wp2_with fail
    refine(HCP.out _).mono ?_
    rintro e w4 ⟨rfl,rfl⟩;go_wp2_with fail
    refine(HPA.out _ HB2.out).mono ?_
    rintro e w5 ⟨⟨pv,rfl,hpv⟩,hb5⟩;have hta:=a29 hpv w5;have htb:=a36 hpv w5;have HB5:=Lib.hid (KB.call HB2.out hb5);clear hb5 hpv c0;cases hd:Cmd.deedO (a02 rw0)with
    |true=>
     rw[hd]at hta HR;unfold ifV at hta;simp only[if_true]at hta HR;clear htb hd;have HDO:=Lib.hid (do_any (ps n).P n hn4 (ps n).F (ps n).b rw0 (by omega) w5 (by have h9:=(HP.out.below HB5.out).posts.post n hn4;rw[HP.out.num n hn4]at h9;exact h9) (HP.out.ok n hn4) (HP.out.posts.vars.below HB5.out) (HP.out.posts.free n hn4));have HOKD:=Lib.hid (af7 (HP.out.ok n hn4) hn4 rw0);generalize doB (ps n).b n rw0=dr at *
     obtain⟨d0,d1,d2⟩:=dr;go_wp2_with fail
     refine HDO.out.mono ?_;rintro e w6 ⟨rfl,hex⟩;have HT:=Lib.hid (Turn.ahead HB5.out (Turn.of (HP.out.below HB5.out) hn4 hex HOKD.out (bs:=fun j=>(ps j).b) (fun j hj=>rfl)));clear hex;go_wp2;go_ret2;rw[HR.out];exact⟨rfl,HT.out⟩
    | false=>
     rw[hd]at hta HR;unfold ifV at hta;simp only[Bool.false_eq_true,if_false]at hta HR;clear hd;cases hq:Cmd.askO (a02 rw0)with
     |true=>
      rw[hq]at htb HR;unfold ifV at htb;simp only[if_true]at htb HR;have HAQ:=Lib.hid (HASK.out n w5 hn4 HPV.out hq HB5.out);clear hq;generalize askB (ps n).b rw0=ar at *
      obtain⟨a0,a1⟩:=ar;go_wp2_with fail
      refine HAQ.out.mono ?_;rintro e w6 ⟨rfl,hb6⟩;have HB6:=Lib.hid (KB.call HB5.out hb6);clear hb6;go_wp2;go_ret2;rw[HR.out];exact⟨rfl,Turn.refl HP.out HB6.out⟩
     |false=>
      rw[hq]at htb HR;unfold ifV at htb;simp only[Bool.false_eq_true,if_false]at htb HR;clear hq;go_wp2;go_ret2;rw[HR.out];exact⟨rfl,Turn.refl HP.out HB5.out⟩
end Go.Proofs.YtdfkaijeppdhaaaGreatDoor
namespace Go.Proofs.YtdfkaijeppdhaaaGreatDoor
open Go.RowKit Go.Shelf
def errW:ByteArray:=⟨#[101,114,114,111,114,32]⟩
def a1M(r:ByteArray×Int):ByteArray:=if r.2=0 then r.1 else errW++itoaB r.2
def a0p(askB:Book->ByteArray->ByteArray×Int)(lines:List ByteArray):Nat->List ByteArray×(Nat->Book)
 |0=>([],fun _=>empB)
 |k+1=>((a0p askB lines k).1++[a1M (a12 askB (a0p askB lines k).2 (lines.getD k emp)).1],(a12 askB (a0p askB lines k).2 (lines.getD k emp)).2)
theorem ack(askB:Book->ByteArray->ByteArray×Int){bs bs':Nat->Book}(h:∀j,j<4->bs j=bs' j)(line:ByteArray):(a12 askB bs line).1=(a12 askB bs' line).1/\∀j,j<4->(a12 askB bs line).2 j=(a12 askB bs' line).2 j:=by
 unfold a12;cases hp:a1r (a3G line)with
 |none=>exact⟨rfl,h⟩
 | some n=>
  have hn:=(a5n hp).2
  have hset:∀(c c':Book),c=c'->∀j,j<4->setN bs n c j=setN bs' n c' j:=fun c c' e j hj=>by
   unfold setN;split
   ·exact e
   exact h j hj
  simp only;rw[h n hn];split
  ·cases hk:a1r (a2l (a0z line))with
   |none=>exact⟨rfl,h⟩
   |some k=>
    simp only;rw[h k (a5n hk).2];exact⟨rfl,hset _ _ rfl⟩
  split
  ·exact⟨rfl,hset _ _ rfl⟩
  split
  ·exact⟨rfl,h⟩
  exact⟨rfl,h⟩
theorem acW(b:Book)(n:Nat)(line:ByteArray):0<=(doB b n line).2.1/\(doB b n line).2.1<=1000:=by
 unfold doB;split
 ·simp
 rename_i c hc
 split
 ·simp
 split
 ·simp
 split
 ·simp
 cases c<;>simp[sayB]
 split<;>simp
theorem a9D(askB:Book->ByteArray->ByteArray×Int)(hsm:∀b l,0<=(askB b l).2/\(askB b l).2<=1000)(bs:Nat->Book)(line:ByteArray):0<=(a12 askB bs line).1.2/\(a12 askB bs line).1.2<=1000:=by
 unfold a12;split
 ·simp
 split
 ·split
  ·simp
  simp only[a0x];split<;>simp
 split
 ·exact acW _ _ _
 split
 ·exact hsm _ _
 simp
theorem a2O(askB:Book->ByteArray->ByteArray×Int)(lines:List ByteArray):∀k,(a0p askB lines k).1.length=k
 |0=>rfl
 |k+1=>by unfold a0p;rw[List.length_append,a2O askB lines k];rfl
theorem PostAt.types{w:World}{P n:Nat}{F:List Nat}{b:Book}(h:PostAt w P F n b){k:Nat}(hk:k∈F):∃cs t fr,w.heap[k]? =some (.cells cs t fr)/\(t=81\/t=96\/t=43):=by
 obtain⟨K,vs,hP,hvs,rfl⟩:=h.parts;rcases List.mem_cons.1 hk with rfl|hk
 ·exact⟨_,_,_,hP,.inl rfl⟩
 rcases List.mem_cons.1 hk with rfl|hk
 ·exact⟨_,_,_,hvs.cells,.inr (.inl rfl)⟩
 obtain⟨i,hi,h5⟩:=mem_blks.1 hk;rcases (hvs.list i hi).2 with⟨h1,_⟩|⟨g',cap',cur,h1,_,h2,_⟩
 ·rw[h1]at h5;cases h5
 rw[h1]at h5;have:g'=k:=by simpa [Value.ownBlock]using h5
 subst this;exact⟨_,_,_,h2,.inr (.inr rfl)⟩
theorem a5o{w:World}{base:Nat}{e:TypeId}{size:Nat}{v:Value}{n:Nat}{xs:List Value}(h:w.ownsRow base e size v n xs){k:Nat}(hk:v.ownBlock=some k):∃cur,w.heap[k]? =some (.cells cur e (0,0)):=by
 rcases h.2 with⟨h1,_⟩|⟨g',cap',cur,h1,_,h2,_⟩
 ·rw[h1]at hk;cases hk
 rw[h1]at hk;have:g'=k:=by simpa [Value.ownBlock]using hk
 subst this;exact⟨_,h2⟩
theorem PostAt.not_own{w:World}{P n:Nat}{F:List Nat}{b:Book}(h:PostAt w P F n b){base:Nat}{e:TypeId}{size:Nat}{v:Value}{m:Nat}{xs:List Value}(hr:w.ownsRow base e size v m xs)(he:e≠81/\e≠96/\e≠43){k:Nat}(hk:k∈F):v.ownBlock≠some k:=fun hv=>by
 obtain⟨cs,t,fr,h1,h2⟩:=h.types hk;obtain⟨cur,h3⟩:=a5o hr hv;rw[h1]at h3;simp only[Option.some.injEq,Obj.cells.injEq]at h3;obtain⟨_,rfl,_⟩:=h3;rcases h2 with h2|h2|h2
 ·exact he.1 h2
 ·exact he.2.1 h2
 exact he.2.2 h2
theorem a0m{w w':World}{base:Nat}{e:TypeId}{size:Nat}{v:Value}{n:Nat}{xs:List Value}(h:w.ownsRow base e size v n xs)(hk:∀k,v.ownBlock=some k->w'.heap[k]? =w.heap[k]?):w'.ownsRow base e size v n xs:=by
 refine⟨h.1,?_⟩;rcases h.2 with hn|⟨g,cap,cur,rfl,hbg,hg,hrest⟩
 ·exact .inl hn
 exact .inr ⟨g,cap,cur,rfl,hbg,(hk g rfl).trans hg,hrest⟩
theorem Posts.grown{w w':World}{m:Nat}{ps:Nat->Pst}(h:Posts w m ps){base:Nat}{e:TypeId}{size:Nat}{v:Value}{n:Nat}{xs:List Value}(hr:w.ownsRow base e size v n xs)(he:e≠81/\e≠96/\e≠43)(hv:∀k,a1p k->k<base)(hg:w.grownBy w' v.ownBlock):Posts w' m ps:=
 h.keep (fun k hk=>hg.block k (h.vars.lt hk) fun e2=>by have:=(hr.lt k e2.symm).1;have:=hv k hk;omega) fun i hi k hk=>hg.block k (h.lt hi hk) fun e2=>(h.post i hi).not_own hr he hk e2.symm
def ptrs(ps:Nat->Pst)(k:Nat):List Value:=(List.range k).map fun j=>.pointer (some ⟨(ps j).P,0,none⟩)
theorem afO(ps:Nat->Pst)(k:Nat)(p:Pst):ptrs (setS ps k p) (k+1)=ptrs ps k++[.pointer (some ⟨p.P,0,none⟩)]:=by
 unfold ptrs;rw[List.range_succ,List.map_append,List.map_singleton,a0F];congr 1;refine List.map_congr_left fun j hj=>?_;rw[a0n _ _ (by have:=List.mem_range.1 hj;omega)]
theorem acX(ps:Nat->Pst){k j:Nat}(h:j<k):(ptrs ps k)[j]? =some (.pointer (some ⟨(ps j).P,0,none⟩)):=by
 unfold ptrs;rw[List.getElem?_map,List.getElem?_range h];rfl
theorem Tryz.infoPtr:(Tryz.prog.info? 33).map (fun i=>(i.zero,i.size,i.bytes))=some (some (.pointer none),1,8):=by kernel_rfl
end Go.Proofs.YtdfkaijeppdhaaaGreatDoor
namespace Go.Proofs.YtdfkaijeppdhaaaGreatDoor.Td
open Go.RowKit
def IntsAt(w:World)(v:Value)(l:List Int):Prop:=
 ∃(a:Option Addr) (cap:Nat),v= .slice a l.length cap/\l.length<=9223372036854775807/\
  (0<l.length->∃b off,a=some ⟨b,off,none⟩/\∀j,j<l.length->w.cell? ⟨b,off+j,none⟩=some (.int .i64 (l.getD j 0)))
def RowsAt(w:World)(v:Value)(t:List (List Int)):Prop:=
 ∃(a:Option Addr) (cap:Nat),v= .slice a t.length cap/\t.length<=9223372036854775807/\
  (0<t.length->∃b off,a=some ⟨b,off,none⟩/\∀i,i<t.length->∃x,w.cell? ⟨b,off+i,none⟩=some x/\IntsAt w x (t.getD i []))
theorem keep_cell{w w':World}(hb:Below w.heap.size w w'){a:Addr}{v:Value}(h:w.cell? a=some v):w'.cell? a=some v:=
 (hb.cell (World.block_lt_of_cell? _ _ h)).trans h
theorem IntsAt.below{w w':World}{v:Value}{l:List Int}(h:IntsAt w v l)(hb:Below w.heap.size w w'):IntsAt w' v l:=by
 obtain⟨a,cap,rfl,hl,h⟩:=h;refine⟨a,cap,rfl,hl,fun h0=>?_⟩;obtain⟨b,off,ha,hc⟩:=h h0;exact⟨b,off,ha,fun j hj=>keep_cell hb (hc j hj)⟩
theorem RowsAt.below{w w':World}{v:Value}{t:List (List Int)}(h:RowsAt w v t)(hb:Below w.heap.size w w'):RowsAt w' v t:=by
 obtain⟨a,cap,rfl,hl,h⟩:=h;refine⟨a,cap,rfl,hl,fun h0=>?_⟩;obtain⟨b,off,ha,hc⟩:=h h0;refine⟨b,off,ha,fun i hi=>?_⟩;obtain⟨x,hx,hi⟩:=hc i hi;exact⟨x,keep_cell hb hx,hi.below hb⟩
theorem below_trans{a b c:World}(h:Below a.heap.size a b)(k:Below b.heap.size b c):Below a.heap.size a c:=h.trans (k.mono h.size)
theorem belowN0{B:Nat}{a w:World}(h:Below B a w)(q:Nat):Below B a (w.drewN q):=⟨h.os,h.tape,h.output,h.size,h.block⟩
theorem RowsAt.drewN{w:World}{v:Value}{t:List (List Int)}(h:RowsAt w v t)(n:Nat):RowsAt (w.drewN n) v t:=h.below (belowN0 (Below.refl _ _) n)
theorem own_cells{W:World}{base:Nat}{e:TypeId}{v:Value}{n:Nat}{xs:List Value}(h:W.ownsRow base e 1 v n xs):
  ∃(a:Option Addr) (cap:Nat),v= .slice a n cap/\(0<n->∃b off,a=some ⟨b,off,none⟩/\∀j,j<n->W.cell? ⟨b,off+j,none⟩=some (xs.getD j undef)):=by
 have hx:=h.1;rcases h.2 with⟨rfl,rfl⟩|⟨g,cap,cur,rfl,hrest⟩
 ·exact⟨none,0,rfl,fun h0=>by omega⟩
 refine⟨some ⟨g,0,none⟩,cap,rfl,fun h0=>⟨g,0,rfl,fun j hj=>?_⟩⟩;rw[Nat.zero_add,h.cellAt j (by omega),List.getD_eq_getElem?_getD,List.getElem?_eq_getElem (by omega)];rfl
theorem own_ints{W:World}{base:Nat}{e:TypeId}{v:Value}{l:List Int}(h:W.ownsRow base e 1 v l.length (l.map (Value.int .i64)))(hl:l.length<=9223372036854775807):IntsAt W v l:=by
 obtain⟨a,cap,rfl,hq⟩:=own_cells h;refine⟨a,cap,rfl,hl,fun h0=>?_⟩;obtain⟨b,off,rfl,hc⟩:=hq h0;clear hq;refine⟨b,off,rfl,fun j hj=>?_⟩;rw[hc j hj];simp[List.getD_eq_getElem?_getD,hj]
theorem ab1{W:World}{base:Nat}{e:TypeId}{v:Value}{t:List (List Int)}{xs:List Value}(h:W.ownsRow base e 1 v t.length xs)(hl:t.length<=9223372036854775807)
  (hx:∀i,i<t.length->IntsAt W (xs.getD i undef) (t.getD i [])):RowsAt W v t:=by
 obtain⟨a,cap,rfl,hq⟩:=own_cells h;refine⟨a,cap,rfl,hl,fun h0=>?_⟩;obtain⟨b,off,rfl,hc⟩:=hq h0;clear hq;exact⟨b,off,rfl,fun j hj=>⟨_,hc j hj,hx j hj⟩⟩
theorem below_append{B:Nat}{w wr w1:World}{e:TypeId}{size:Nat}{v:Value}{n:Nat}{xs:List Value}{o:Obj}(hB:Below B w wr)(hs:B<=wr.heap.size)(hown:wr.ownsRow B e size v n xs)
  (hg:(wr.alloc o).grownBy w1 v.ownBlock):Below B w w1:=
 (hB.alloc hs o).grown hg (by simp;omega) (fun k e=>(hown.lt k e).1)
theorem a1A{α:Type}(xs:List α)(x d:α){i:Nat}(h:i<xs.length):(xs++[x]).getD i d=xs.getD i d:=by
 simp[List.getD_eq_getElem?_getD,List.getElem?_append_left h]
theorem a1B{α:Type}(xs:List α)(x d:α):(xs++[x]).getD xs.length d=x:=by
 simp[List.getD_eq_getElem?_getD]
end Go.Proofs.YtdfkaijeppdhaaaGreatDoor.Td
namespace Go.Proofs.YtdfkaijeppdhaaaGreatDoor.Td
def acc(f:Int->Int)(a:Int):Nat->Int
 |0=>0
 |n+1=>acc f a n+f (a+n)
def Per(f:Int->Int)(p:Int):Prop:=∀h,f (h+p)=f h
theorem acY(f:Int->Int)(a:Int)(n m:Nat):acc f a (n+m)=acc f a n+acc f (a+n) m:=by
 induction m with
 |zero=>simp[acc]
 |succ m ih=>
  rw[show n+(m+1)=(n+m)+1 from rfl];simp only[acc];rw[ih,show a+((n+m:Nat):Int)=a+n+m from by omega];omega
theorem afP(f:Int->Int)(a:Int)(n:Nat):acc f a (n+1)=f a+acc f (a+1) n:=by
 rw[show n+1=1+n from Nat.add_comm _ _,acY];simp[acc]
theorem acc_bound(f:Int->Int)(B:Int)(hf:∀h, -B<=f h/\f h<=B)(a:Int)(n:Nat): -(B * n)<=acc f a n/\acc f a n<=B * n:=by
 induction n with
 |zero=>simp[acc]
 |succ n ih=>
  have h1:=hf (a+n);have e:B * ((n+1:Nat):Int)=B * n+B:=by rw[Int.natCast_add,Int.mul_add];simp
  simp only[acc];omega
theorem Per.neg{f:Int->Int}{p:Int}(h:Per f p):Per f (-p):=fun x=>by
 have:=h (x+ -p);rw[show x+ -p+p=x from by omega]at this;exact this.symm
theorem Per.add{f:Int->Int}{p q:Int}(h:Per f p)(k:Per f q):Per f (p+q):=fun x=>by
 rw[<-Int.add_assoc,k,h]
theorem Per.zero(f:Int->Int):Per f 0:=fun x=>by rw[Int.add_zero]
theorem Per.mulNat{f:Int->Int}{p:Int}(h:Per f p)(n:Nat):Per f (n * p):=by
 induction n with
 |zero=>simpa using Per.zero f
 |succ n ih=>
  rw[Int.natCast_add,Int.add_mul];simpa using ih.add h
theorem Per.mul{f:Int->Int}{p:Int}(h:Per f p)(n:Int):Per f (n * p):=by
 rcases Int.le_total 0 n with hn|hn
 ·obtain⟨k,rfl⟩:=Int.eq_ofNat_of_zero_le hn;exact h.mulNat k
 obtain⟨k,hk⟩:=Int.eq_ofNat_of_zero_le (show 0<= -n by omega);have:=(h.mulNat k).neg
 rw[<-hk,Int.neg_mul,Int.neg_neg]at this;exact this
theorem Per.dvd{f:Int->Int}{p q:Int}(h:Per f p)(hd:p ∣ q):Per f q:=by
 obtain⟨c,rfl⟩:=hd;rw[Int.mul_comm];exact h.mul c
theorem Per.mod{f:Int->Int}{p:Int}(h:Per f p)(x:Int):f (x % p)=f x:=by
 have:=h.mul (x / p) (x % p);rw[<-this,Int.emod_add_ediv_mul x p]
theorem adO{f:Int->Int}{r:Nat}(h:Per f r)(a:Int):acc f (a+1) r=acc f a r:=by
 have h1:=afP f a r;simp only[acc]at h1;rw[h]at h1;omega
theorem a6d{f:Int->Int}{r:Nat}(h:Per f r)(a:Int)(k:Nat):acc f (a+k) r=acc f a r:=by
 induction k with
 |zero=>simp
 |succ k ih=>rw[<-ih,<-adO h (a+k)];congr 1;omega
theorem afQ{f:Int->Int}{r:Nat}(h:Per f r)(a b:Int):acc f a r=acc f b r:=by
 rcases Int.le_total a b with hab|hab
 ·obtain⟨k,hk⟩:=Int.eq_ofNat_of_zero_le (show 0<=b-a by omega);rw[show b=a+k from by omega,a6d h]
 obtain⟨k,hk⟩:=Int.eq_ofNat_of_zero_le (show 0<=a-b by omega);rw[show a=b+k from by omega,a6d h]
theorem adP{f:Int->Int}{r:Nat}(h:Per f r)(a:Int)(q s:Nat):acc f a (q * r+s)=q * acc f 0 r+acc f a s:=by
 induction q with
 |zero=>simp
 |succ q ih=>
  have e:(q+1) * r+s=(q * r+s)+r:=by rw[Nat.add_mul];omega
  rw[e,acY,ih,afQ h (a+((q * r+s:Nat):Int)) 0,show ((q+1:Nat):Int)=(q:Int)+1 from rfl,Int.add_mul];omega
theorem afR{f:Int->Int}{r:Nat}(h:Per f r)(a:Int)(n:Nat):((n / r:Nat):Int) * acc f 0 r+acc f a (n % r)=acc f a n:=by
 rw[<-adP h];congr 1;rw[Nat.mul_comm];exact Nat.div_add_mod n r
def repB(f:Int->Int)(r b:Nat):Bool:=(List.range r).all fun h=>f h==f ((h:Int)+b)
def btFrom(f:Int->Int)(r:Nat):Nat->Nat->Nat
 |0,_=>r
 |n+1,b=>if r % b=0/\repB f r b=true then b else btFrom f r n (b+1)
def bt(f:Int->Int)(r:Nat):Nat:=btFrom f r (r-1) 1
def wat(l:List Int)(h:Int):Int:=l.getD (h % (l.length:Int)).toNat 0
def spd(t:List (List Int))(h:Int):Int:=(t.map (wat · h)).sum
def rnd(t:List (List Int)):Nat:=t.foldl (fun r l=>Nat.lcm r l.length) 1
def wvld(l:List Int):Bool:=decide (1<=l.length)&&decide (l.length<=12)&&l.all fun n=>decide (-100<=n)&&decide (n<=100)
def vld(t:List (List Int)):Bool:=decide (1<=t.length)&&decide (t.length<=4)&&t.all wvld
structure Vld(t:List (List Int)):Prop where
 lo:1<=t.length
 hi:t.length<=4
 wave:∀l∈t,1<=l.length/\l.length<=12/\∀n∈l, -100<=n/\n<=100
theorem a1C(l:List Int):wvld l=true↔1<=l.length/\l.length<=12/\∀n∈l, -100<=n/\n<=100:=by
 simp[wvld,and_assoc]
theorem vld_iff(t:List (List Int)):vld t=true↔Vld t:=by
 simp only[vld,Bool.and_eq_true,decide_eq_true_eq,List.all_eq_true,a1C];exact⟨fun h=>⟨h.1.1,h.1.2,h.2⟩,fun h=>⟨⟨h.lo,h.hi⟩,h.wave⟩⟩
theorem a6e{l:List Int}(h:∀n∈l, -100<=n/\n<=100)(x:Int): -100<=wat l x/\wat l x<=100:=by
 unfold wat;rw[List.getD_eq_getElem?_getD];cases e:l[(x % (l.length:Int)).toNat]? with
 |none=>simp
 |some y=>simpa using h y (List.mem_of_getElem? e)
theorem aiV(l:List Int):Per (wat l) l.length:=fun x=>by
 unfold wat;rw[Int.add_emod_right]
theorem aiW(h:Int):spd [] h=0:=rfl
theorem a5p(l:List Int)(t:List (List Int))(h:Int):spd (l::t) h=wat l h+spd t h:=by simp[spd]
theorem adQ(t u:List (List Int))(h:Int):spd (t++u) h=spd t h+spd u h:=by simp[spd]
theorem a4w:∀(t:List (List Int)),(∀l∈t,∀n∈l, -100<=n/\n<=100)->∀h, -(100 * (t.length:Int))<=spd t h/\spd t h<=100 * t.length
 |[],_,h=>by simp[spd]
 |l::t,ht,h=>by
  have h1:=a6e (ht l (by simp)) h;have h2:=a4w t (fun l hl=>ht l (by simp[hl])) h;rw[a5p,List.length_cons];omega
theorem Vld.bd{t:List (List Int)}(h:Vld t)(x:Int): -400<=spd t x/\spd t x<=400:=by
 have h1:=a4w t (fun l hl=>(h.wave l hl).2.2) x;have:=h.hi;omega
theorem a4e:∀(t:List (List Int)) (r:Nat),0<r->(∀l∈t,1<=l.length)->0<t.foldl (fun r l=>Nat.lcm r l.length) r
 |[],r,h,_=>h
 |l::t,r,h,ht=>a4e t _ (Nat.lcm_pos h (ht l (by simp))) (fun l hl=>ht l (by simp[hl]))
theorem a6f:∀(t:List (List Int)) (r:Nat),r ∣ t.foldl (fun r l=>Nat.lcm r l.length) r/\∀l∈t,l.length ∣ t.foldl (fun r l=>Nat.lcm r l.length) r
 |[],r=>⟨Nat.dvd_refl _,by simp⟩
 |l::t,r=>by
  obtain⟨h1,h2⟩:=a6f t (Nat.lcm r l.length);refine⟨Nat.dvd_trans (Nat.dvd_lcm_left _ _) h1,fun m hm=>?_⟩;rcases List.mem_cons.1 hm with rfl|hm
  ·exact Nat.dvd_trans (Nat.dvd_lcm_right _ _) h1
  exact h2 m hm
theorem a3j:∀(t:List (List Int)) (r n:Nat),r ∣ n->(∀l∈t,l.length ∣ n)->t.foldl (fun r l=>Nat.lcm r l.length) r ∣ n
 |[],r,n,h,_=>h
 |l::t,r,n,h,ht=>a3j t _ n (Nat.lcm_dvd h (ht l (by simp))) (fun m hm=>ht m (by simp[hm]))
theorem Vld.rnd_pos{t:List (List Int)}(h:Vld t):0<rnd t:=a4e t 1 (by omega) (fun l hl=>(h.wave l hl).1)
theorem ab2{n:Nat}(h1:1<=n)(h2:n<=12):n ∣ 27720:=by
 have:∀m,m<12->(m+1) ∣ 27720:=by decide
 have:=this (n-1) (by omega);rwa[show n-1+1=n from by omega]at this
theorem Vld.rnd_all{t:List (List Int)}(h:Vld t):rnd t ∣ 27720:=
 a3j t 1 27720 (Nat.one_dvd _) (fun l hl=>ab2 (h.wave l hl).1 (h.wave l hl).2.1)
theorem Vld.rnd_le{t:List (List Int)}(h:Vld t):rnd t<=27720:=Nat.le_of_dvd (by omega) h.rnd_all
theorem a8a{n:Nat}:∀(t:List (List Int)),(∀l∈t,l.length ∣ n)->Per (spd t) n
 |[],_=>fun x=>rfl
 |l::t,h=>fun x=>by
  rw[a5p,a5p,a8a t (fun m hm=>h m (by simp[hm])) x,(aiV l).dvd (Int.ofNat_dvd.2 (h l (by simp))) x]
theorem acZ(t:List (List Int)):Per (spd t) (rnd t:Nat):=a8a t (a6f t 1).2
end Go.Proofs.YtdfkaijeppdhaaaGreatDoor.Td
