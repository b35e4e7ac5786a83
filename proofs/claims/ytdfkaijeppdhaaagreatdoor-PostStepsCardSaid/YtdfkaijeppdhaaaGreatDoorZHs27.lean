/- Part of the proof. -/
import Derived.Test.YtdfkaijeppdhaaaGreatDoorZHs11
import Derived.Test.YtdfkaijeppdhaaaGreatDoorZHs26
set_option maxRecDepth 100000
set_option maxHeartbeats 8000000
set_option linter.unusedSimpArgs false
set_option linter.unusedVariables false

namespace Go.Proofs.YtdfkaijeppdhaaaGreatDoor
open Lib (hid)
open Proofs.Tryz Go.RowKit Go.Shelf
theorem Vars.td{w:World}(h:Vars w):Td.Vars w:=⟨h.tab,h.es,h.er⟩
theorem ajI(f:Int->Int)(r:Nat):∀k b,b+k<=r->Td.btFrom f r k b<=r:=by
 intro k;induction k with
 |zero=>intro b h;unfold Td.btFrom;omega
 |succ k ih=>
  intro b h;unfold Td.btFrom;split
  ·omega
  exact ih _ om
theorem ag3(t:List (List Int)): -1000000000<=Td.qi t true (Td.bt (Td.spd t) (Td.rnd t):Nat)/\Td.qi t true (Td.bt (Td.spd t) (Td.rnd t):Nat)<=1000000000:=by
 unfold Td.qi;split
 ·rename_i h
  have hv:=(Td.vld_iff t).1 (by simpa using h)
  have:=hv.rnd_le
  have h1:Td.bt (Td.spd t) (Td.rnd t)<=Td.rnd t:=by
   have h0:=hv.rnd_pos;unfold Td.bt;exact ajI (Td.spd t) (Td.rnd t) (Td.rnd t-1) 1 om
  omega
 omega
theorem aed(t:List (List Int))(hh n:Int): -1000000000<=Td.qi t (Td.hourB hh&&Td.spanB n) (Td.acc (Td.spd t) hh n.toNat)/\Td.qi t (Td.hourB hh&&Td.spanB n) (Td.acc (Td.spd t) hh n.toNat)<=1000000000:=by
 unfold Td.qi;split
 ·rename_i h
  simp only[Bool.and_eq_true]at h;have hv:=(Td.vld_iff t).1 h.1
  have:=Td.acc_bound _ 400 hv.bd hh n.toNat;have hs:=h.2.2;have hs:=(Td.spanB_iff _).1 hs
  omega
 omega
def a1L(ts:List ByteArray):ByteArray×Int:=match Td.parP (ts.getD 0 emp)with
 |none=>(emp,3)
 |some t=>(itoaB (Td.qi t true (Td.bt (Td.spd t) (Td.rnd t):Nat)),Td.qe t true)
def a1u(ns:List Int)(ts:List ByteArray):ByteArray×Int:=match Td.parP (ts.getD 0 emp)with
 |none=>(emp,3)
 |some t=>(itoaB (Td.qi t (Td.hourB (ns.getD 0 0)&&Td.spanB (ns.getD 1 0)) (Td.acc (Td.spd t) (ns.getD 0 0) (ns.getD 1 0).toNat)),Td.qe t (Td.hourB (ns.getD 0 0)&&Td.spanB (ns.getD 1 0)))
theorem ajJ(W:World)(base:Nat)(tv bv:Value)(ts:List ByteArray)(h:W.ownsRow base 9 1 tv ts.length (ts.map Value.string))(h0:0<ts.length)(hV:Vars W):Calls prog 117 #[tv,bv] W (a0J (a1L ts) W):=by
 rcases h.2 with⟨_,h1⟩|⟨g,cap,cur,rfl,_⟩
 ·omega
 have c0:=h.cellAt 0 om;rw[apr,aoj h0]at c0;have hx:ts.getD 0 emp=ts[0]:=by rw[aoh,aoj h0];rfl
 unfold a1L;rw[hx];generalize ts[0]=x at *;generalize ts.length=n at *;simp only[Option.map_some]at c0;clear h hx;have HP:=hid (Td.tParse_any x W hV.td);have HV:=hid hV;clear hV;cases hp:Td.parP x with
 |none=>
  rw[hp]at HP;clear hp;unfold emp;go_enter func117,ntmps117;go_wp2_with (go_at_call 149;refine HP.out.mono ?_;rintro e w1 ⟨ov,rfl,hr,hb1⟩;unfold Td.parE)
  go_ret2;exact⟨rfl,hb1⟩
 | some t=>
  rw[hp]at HP;clear hp;have HBD:=hid (ag3 t);go_enter func117,ntmps117;go_wp2_with (go_at_call 149;refine HP.out.mono ?_;rintro e w1 ⟨ov,rfl,hr,hb1⟩;unfold Td.parE)
  have HB:=hid (Td.tBeat_any ov t _ hr);have HB1:=hid hb1;clear hr hb1;generalize Td.qi t true (Td.bt (Td.spd t) (Td.rnd t):Nat)=q at *;generalize Td.qe t true=qe at *
  go_wp2_with (first
   |(go_at_call 150;refine HB.out.mono ?_;rintro e w2 ⟨rfl,hb2⟩;have HB2:=hid (below_trans HB1.out hb2);have HI:=hid (itoa_any q HBD.out.1 HBD.out.2 w2 (HV.out.below HB2.out));clear hb2)
   |(go_at_call 48;refine HI.out.mono ?_;rintro e w3 ⟨rfl,hb3⟩)
   |fail)
  go_ret2;exact⟨rfl,below_trans HB2.out hb3⟩
theorem ahl(W:World)(base:Nat)(tv bv:Value)(ts:List ByteArray)(ns:List Int)(h:W.ownsRow base 9 1 tv ts.length (ts.map Value.string))(h0:0<ts.length)(hI:IntsAt W bv ns)(hn:ns.length=2)(hV:Vars W):Calls prog 119 #[tv,bv] W (a0J (a1u ns ts) W):=by
 obtain⟨ia,icap,rfl,_,hq⟩:=hI;obtain⟨ib,ioff,rfl,hc⟩:=hq om;have i0:=hc 0 om;have i1:=hc 1 om;rw[apM]at i0;clear hq hc;unfold a1u;rw[hn];generalize ns.getD 0 0=na at *;generalize ns.getD 1 0=nb at *;rcases h.2 with⟨_,h1⟩|⟨g,cap,cur,rfl,_⟩
 ·omega
 have c0:=h.cellAt 0 om;rw[apr,aoj h0]at c0;have hx:ts.getD 0 emp=ts[0]:=by rw[aoh,aoj h0];rfl
 rw[hx];generalize ts[0]=x at *;generalize ts.length=n at *;simp only[Option.map_some]at c0;clear h hx;have HP:=hid (Td.tParse_any x W hV.td);have HV:=hid hV;clear hV;cases hp:Td.parP x with
 |none=>
  rw[hp]at HP;clear hp;unfold emp;go_enter func119,ntmps119;go_wp2_with (go_at_call 149;refine HP.out.mono ?_;rintro e w1 ⟨ov,rfl,hr,hb1⟩;unfold Td.parE)
  go_ret2;exact⟨rfl,hb1⟩
 | some t=>
  rw[hp]at HP;clear hp;have HBD:=hid (aed t na nb);go_enter func119,ntmps119;go_wp2_with (first|(go_at_call 149;refine HP.out.mono ?_;rintro e w1 ⟨ov,rfl,hr,hb1⟩;unfold Td.parE)|fail)
  have HD:=hid (fun X (hX:KB w1 X)=>Td.tDrift_any ov t na nb X (hr.below hX));have HB1:=hid hb1;have j0:∀X,KB w1 X->X.cell? ⟨ib,ioff,none⟩=some (.int .i64 na):=fun X hX=>keep_cell hX (keep_cell hb1 i0);have j1:∀X,KB w1 X->X.cell? ⟨ib,ioff+1,none⟩=some (.int .i64 nb):=fun X hX=>keep_cell hX (keep_cell hb1 i1);clear hr hb1 i0 i1 c0;generalize Td.qi t (Td.hourB na&&Td.spanB nb) (Td.acc (Td.spd t) na nb.toNat)=q at *;generalize Td.qe t (Td.hourB na&&Td.spanB nb)=qe at *
  go_region_held3 (fun X=>KB w1 X) (first|exact KB.refl _|exact KB.drew (KB.refl _)|assumption|exact KB.drew (by assumption)|fail) (first
   |(go_at_call 152;refine(HD.out _ (by first|exact KB.refl _|exact KB.drew (KB.refl _)|assumption)).mono ?_;rintro e w2 ⟨rfl,hb2⟩;have q2:KB w1 w2:=KB.call (KB.drew (KB.refl _)) hb2;have HB2:=hid (below_trans HB1.out q2);have HI:=hid (itoa_any q HBD.out.1 HBD.out.2 w2 (HV.out.below HB2.out));clear hb2)
   |fail)
  all_goals (
   go_wp2_with (first
    |(go_at_call 48;refine HI.out.mono ?_;rintro e w3 ⟨rfl,hb3⟩)
    |fail)
   go_ret2;exact⟨rfl,below_trans HB2.out hb3⟩)
end Go.Proofs.YtdfkaijeppdhaaaGreatDoor
namespace Go.Proofs.YtdfkaijeppdhaaaGreatDoor.Fd
open Go.RowKit
def IntsAt(w:World)(v:Value)(l:List Int):Prop:=
 ∃(a:Option Addr) (cap:Nat),v= .slice a l.length cap/\l.length<=9223372036854775807/\
  (0<l.length->∃b off,a=some ⟨b,off,none⟩/\∀j,j<l.length->w.cell? ⟨b,off+j,none⟩=some (.int .i64 (l.getD j 0)))
def RowsAt(w:World)(v:Value)(t:List (List Int)):Prop:=
 ∃(a:Option Addr) (cap:Nat),v= .slice a t.length cap/\t.length<=9223372036854775807/\
  (0<t.length->∃b off,a=some ⟨b,off,none⟩/\∀i,i<t.length->∃x,w.cell? ⟨b,off+i,none⟩=some x/\IntsAt w x (t.getD i []))
theorem keep_cell{w w':World}(hb:Below w.heap.size w w'){a:Addr}{v:Value}(h:w.cell? a=some v):w'.cell? a=some v:=
 (hb.cell (World.block_lt_of_cell? _ _ h)).trans h
theorem IntsAt.below{w w':World}{v:Value}{l:List Int}(h:IntsAt w v l)(hb:Below w.heap.size w w'):IntsAt w' v l:=by
 obtain⟨a,cap,rfl,hl,h⟩:=h;refine⟨a,cap,rfl,hl,fun h0=>?_⟩;obtain⟨b,off,ha,hc⟩:=h h0;exact⟨b,off,ha,fun j hj=>keep_cell hb (hc j hj)⟩
theorem RowsAt.below{w w':World}{v:Value}{t:List (List Int)}(h:RowsAt w v t)(hb:Below w.heap.size w w'):RowsAt w' v t:=by
 obtain⟨a,cap,rfl,hl,h⟩:=h;refine⟨a,cap,rfl,hl,fun h0=>?_⟩;obtain⟨b,off,ha,hc⟩:=h h0;refine⟨b,off,ha,fun i hi=>?_⟩;obtain⟨x,hx,hi⟩:=hc i hi;exact⟨x,keep_cell hb hx,hi.below hb⟩
theorem below_trans{a b c:World}(h:Below a.heap.size a b)(k:Below b.heap.size b c):Below a.heap.size a c:=h.trans (k.mono h.size)
theorem own_cells{W:World}{base:Nat}{e:TypeId}{v:Value}{n:Nat}{xs:List Value}(h:W.ownsRow base e 1 v n xs):
  ∃(a:Option Addr) (cap:Nat),v= .slice a n cap/\(0<n->∃b off,a=some ⟨b,off,none⟩/\∀j,j<n->W.cell? ⟨b,off+j,none⟩=some (xs.getD j undef)):=by
 have hx:=h.1;rcases h.2 with⟨rfl,rfl⟩|⟨g,cap,cur,rfl,hrest⟩
 ·exact⟨none,0,rfl,fun h0=>om⟩
 refine⟨some ⟨g,0,none⟩,cap,rfl,fun h0=>⟨g,0,rfl,fun j hj=>?_⟩⟩;rw[ap5,h.cellAt j om,aoh,aoj om];rfl
theorem own_ints{W:World}{base:Nat}{e:TypeId}{v:Value}{l:List Int}(h:W.ownsRow base e 1 v l.length (l.map (Value.int .i64)))(hl:l.length<=9223372036854775807):IntsAt W v l:=by
 obtain⟨a,cap,rfl,hq⟩:=own_cells h;refine⟨a,cap,rfl,hl,fun h0=>?_⟩;obtain⟨b,off,rfl,hc⟩:=hq h0;clear hq;refine⟨b,off,rfl,fun j hj=>?_⟩;rw[hc j hj];simp[aoh,hj]
theorem below_append{B:Nat}{w wr w1:World}{e:TypeId}{size:Nat}{v:Value}{n:Nat}{xs:List Value}{o:Obj}(hB:Below B w wr)(hs:B<=wr.heap.size)(hown:wr.ownsRow B e size v n xs)
  (hg:(wr.alloc o).grownBy w1 v.ownBlock):Below B w w1:=
 (hB.alloc hs o).grown hg km (fun k e=>(hown.lt k e).1)
theorem belowN0{B:Nat}{a w:World}(h:Below B a w)(q:Nat):Below B a (w.drewN q):=⟨h.os,h.tape,h.output,h.size,h.block⟩
end Go.Proofs.YtdfkaijeppdhaaaGreatDoor.Fd
