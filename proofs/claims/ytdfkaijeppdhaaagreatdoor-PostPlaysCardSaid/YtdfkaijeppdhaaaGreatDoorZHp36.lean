/- Texts of this claim, laid together: Pu, Aq, Rn. -/
import Derived.Test.YtdfkaijeppdhaaaGreatDoorZHp33
import Derived.Test.YtdfkaijeppdhaaaGreatDoorZHp35
import Derived.Test.YtdfkaijeppdhaaaGreatDoorZHp11
import Derived.Test.YtdfkaijeppdhaaaGreatDoorZHp29
import Derived.Deep.RegionHeld3
import Derived.Test.YtdfkaijeppdhaaaGreatDoorZHp28

set_option maxRecDepth 100000
set_option maxHeartbeats 8000000
set_option linter.unusedSimpArgs false
set_option linter.unusedVariables false

namespace Go.Proofs.YtdfkaijeppdhaaaGreatDoor
open Go.RowKit Go.Shelf
open Lib (hid)
def farN(s t:ByteArray):Nat:=if a3e s t then dist s.data.toList t.data.toList else 0
def farE(s t:ByteArray):Int:=if a3e s t then 0 else 90
theorem a2c{s:ByteArray}(h:a1m s=true):s.size<=20:=by
 unfold a1m at h;rw[Bool.and_eq_true,decide_eq_true_eq]at h;exact h.1
theorem adh(s t:ByteArray):farN s t<=40:=by
 unfold farN;split
 ·rename_i h
  unfold a3e at h;rw[Bool.and_eq_true]at h;have h1:=a2c h.1;have h2:=a2c h.2;have h3:=a4Z s.data.toList t.data.toList;rw[<-a03,<-a03]at h3;omega
 omega
def a3n(s t:ByteArray)(w:World)(e:Ending)(w':World):Prop:=e= .returned (.tuple #[.int .i64 (farN s t:Nat),.int .i64 (farE s t)])/\Below w.heap.size w w'
theorem abJ(s t:ByteArray)(hs:s.size<=1000000)(ht:t.size<=1000000)(w:World):
  Calls Tryz.prog 151 #[.string s,.string t,.agg #[.int .i64 1,.int .i64 1]] w (a3n s t w):=by
 have hb1:Below w.heap.size w (w.alloc (.cells #[.int .i64 1,.int .i64 1] 176)):=(Below.refl _ _).alloc (Nat.le_refl _) _
 have HN:=hid (acK s t hs ht (w.alloc (.cells #[.int .i64 1,.int .i64 1] 176)));have HB1:=hid hb1;clear hb1;unfold a3n farN farE;cases hp:a3e s t with
 |false=>
  rw[hp]at HN;simp only[Bool.false_eq_true,if_false]at HN⊢;unfold aeC at HN;clear hp;go_enter Tryz.func151,Tryz.ntmps151;go_wp2_with fail
  refine HN.out.mono ?_;rintro e w2 ⟨rfl,hb2⟩;have HB2:=hid (below_trans HB1.out hb2);clear hb2;go_wp2;go_ret2;exact⟨rfl,HB2.out.alloc HB2.out.size _⟩
 |true=>
  rw[hp]at HN;simp only[if_true]at HN⊢;unfold aeB at HN;unfold a3e at hp;rw[Bool.and_eq_true]at hp;have HS:=hid (And.intro (a2c hp.1) (a2c hp.2));have HD:=hid (show cst s.data.toList t.data.toList 0 0=dist s.data.toList t.data.toList from rfl);generalize dist s.data.toList t.data.toList=d at *;clear hp;go_enter Tryz.func151,Tryz.ntmps151;go_wp2_with fail
  refine HN.out.mono ?_;rintro e w2 ⟨rfl,hb2⟩;have HB2:=hid (below_trans HB1.out hb2);clear hb2;have HB3:=hid (HB2.out.alloc HB2.out.size (.cells #[.string s,.string t,.int .i64 1,.int .i64 1] 253));go_wp2_with fail
  refine(agJ s t HS.out.1 HS.out.2 _).mono ?_
  rintro e w3 ⟨O,G,rfl,htab,hb3⟩;have HB4:=hid (below_trans HB3.out hb3);have q0:=htab.look (i:=0) (Nat.le_refl _) (Nat.zero_le _);obtain⟨v,q1,hv⟩:=htab.entry (i:=0) (k:=0) (e:=0) (Nat.le_refl _) (Nat.zero_le _) (Nat.zero_le _) (by omega) (.inr (Nat.le_refl _));unfold okR at hv;rw[if_pos rfl]at hv;subst hv;rw[HD.out]at q1;simp only[Nat.zero_mul,Nat.add_zero]at q1;have z1:(0:Int)<(s.size:Int)+1:=by omega
  have z2:(0:Int)<(t.size:Int)+1:=by omega
  clear hb3 htab;go_wp2;go_ret2;exact⟨rfl,HB4.out⟩
def a2q(ts:List ByteArray):ByteArray×Int:=(itoaB (farN (ts.getD 0 emp) (ts.getD 1 emp):Nat),farE (ts.getD 0 emp) (ts.getD 1 emp))
theorem aii(W:World)(base:Nat)(tv bv:Value)(ts:List ByteArray)(h:W.ownsRow base 9 1 tv ts.length (ts.map Value.string))(h0:ts.length=2)(hsz:∀x∈ts,x.size<=1000000)(hV:Vars W):Calls Tryz.prog 118 #[tv,bv] W (a0t (a2q ts) W):=by
 rcases h.2 with⟨_,h1⟩|⟨g,cap,cur,rfl,_⟩
 ·omega
 have c0:=h.cellAt 0 (by omega);have c1:=h.cellAt 1 (by omega);rw[List.getElem?_map,List.getElem?_eq_getElem (by omega)]at c0 c1;have hx:ts.getD 0 emp=ts[0]:=by rw[List.getD_eq_getElem?_getD,List.getElem?_eq_getElem (by omega)];rfl
 have hy:ts.getD 1 emp=ts[1]:=by rw[List.getD_eq_getElem?_getD,List.getElem?_eq_getElem (by omega)];rfl
 have hsx:=hsz ts[0] (List.getElem_mem _);have hsy:=hsz ts[1] (List.getElem_mem _);unfold a2q;rw[hx,hy];generalize ts[0]=x at *;generalize ts[1]=y at *;rw[h0];simp only[Option.map_some]at c0 c1;clear h hx hy hsz h0;have HD:=hid (fun X=>abJ x y hsx hsy X);unfold a3n at HD;have HF:=hid (adh x y);have HV:=hid hV;generalize farN x y=d at *;generalize farE x y=er at *;clear hV;have j0:∀X,KB W X->X.cell? ⟨g,0,none⟩=some (.string x):=fun X hX=>keep_cell hX c0;have j1:∀X,KB W X->X.cell? ⟨g,1,none⟩=some (.string y):=fun X hX=>keep_cell hX c1;go_enter Tryz.func118,Tryz.ntmps118;go_wp2_with fail
 go_region_held3 (fun X=>KB W X) (first|exact KB.refl _|exact KB.drew (KB.refl _)|assumption|exact KB.drew (by assumption)|fail) (first
  |(go_at_call 151;refine(HD.out _).mono ?_;rintro e w2 ⟨rfl,hb2⟩;have q2:KB W w2:=KB.call (KB.drew (KB.refl _)) hb2;have HB2:=hid q2;have HI:=hid (itoa_any (d:Int) (by omega) (by have:=HF.out;omega) w2 (HV.out.below HB2.out));clear hb2)
  |fail)
 all_goals (
  go_wp2_with (first
   |(go_at_call 48;refine HI.out.mono ?_;rintro e w3 ⟨rfl,hb3⟩)
   |fail)
  go_ret2;exact⟨rfl,below_trans HB2.out hb3⟩)
theorem aa1:∀(l:List Ent) (kn:Kn),(∀n t,kn.txt n=some t->t.size<=60)->(∀e∈l,(a05 e).size<=60)->∀n t,(a1i kn l).txt n=some t->t.size<=60
 |[],kn,h,_=>h
 | e ::l,kn,h,hl=>by
  have h1:∀n t,(a0D kn (a05 e)).txt n=some t->t.size<=60:=by
   intro n t ht;unfold a0D at ht;cases hp:a02 (a05 e)with
   |none=>rw[hp]at ht;exact h n t ht
   | some c=>
    rw[hp]at ht;simp only at ht;split at ht
    ·cases c with
     | put x u=>
      simp only[sayB,upd]at ht;split at ht
      ·cases ht
       have:=(Cmd.put_size hp)
       have:=hl e (by simp);omega
      exact h n t ht
     |drop x=>
      simp only[sayB]at ht;split at ht
      ·exact h n t ht
      simp only[upd]at ht;split at ht
      ·cases ht
      exact h n t ht
     |add x m=>exact h n t ht
     |stock x=>exact h n t ht
     |share m x=>exact h n t ht
     |asked k x m=>exact h n t ht
    exact h n t ht
  exact aa1 l _ h1 (fun e he=>hl e (by simp[he]))
theorem aa2{b:Book}(hb:a08 b)(n t:ByteArray)(h:(a06 (allB b)).txt n=some t):t.size<=60:=
 aa1 (allB b) kn0 (fun _ _ h=>by cases h) (fun _ he=>((a0T _).1 (by rw[<-a1J];exact(a0Z hb he).2.2.2)).1) n t h
theorem abK{α β:Type}{f:α->Option β}:∀{l:List α} {ys:List β},allS f l=some ys->∀y∈ys,∃x,f x=some y
 |[],_,h,y,hy=>by simp only[allS,Option.some.injEq]at h;subst h;simp at hy
 | a::l,ys,h,y,hy=>by
  unfold allS at h;cases h1:f a with
  |none=>simp[h1]at h
  | some z=>
   cases h2:allS f l with
   |none=>simp[h1,h2]at h
   |some zs=>
    simp only[h1,h2,Option.some.injEq]at h;subst h;rcases List.mem_cons.1 hy with rfl|hy
    ·exact⟨a,h1⟩
    exact abK h2 y hy
theorem acL(P n:Nat)(F:List Nat)(b:Book)(line:ByteArray)(hs:line.size<=1000000)(w:World)(h:PostAt w P F n b)(hok:a08 b)(hV:Vars w)(names:List ByteArray)(ns:List Int)(hc:a02 line=some (.asked 2 names ns)):
  Calls Tryz.prog 36 #[.pointer (some ⟨P,0,none⟩),.string line] w (a0t (a0h a2q names (a06 (allB b))) w):=by
 have hsh:=(Cmd.shape hc).2 _ _ _ rfl
 unfold Shp at hsh
 exact a3X P n F b line hs w h hok hV 2 names ns hc (by omega) (by omega) a2q (enters_of Tryz.func118 (by kernel_rfl) rfl) fun W base tv bv ts hb _ hrow _ hts=>by
  have hlen:=allS_len _ _ _ hts;refine aii W base tv bv ts hrow (by omega) (fun x hx=>?_) (hV.below hb);obtain⟨n,hn⟩:=abK hts x hx;have:=aa2 hok n x hn;omega
def ansK(k:Nat)(ns:List Int):List ByteArray->ByteArray×Int:=
 if k=0 then a1N else if k=1 then a14 else if k=2 then a2q else a0O ns
def askV(kn:Kn):Cmd->ByteArray×Int
 | .stock n=>a2H n kn
 | .share m l=>a2p l m kn
 | .asked k l ns=>a0h (ansK k ns) l kn
 |_=>(emp,100)
def askB(b:Book)(line:ByteArray):ByteArray×Int:=match a02 line with
 |some c=>askV (a06 (allB b)) c
 |none=>(emp,100)
theorem ajp(P n:Nat)(F:List Nat)(b:Book)(line:ByteArray)(hs:line.size<=1000000)(w:World)(h:PostAt w P F n b)(hok:a08 b)(hV:Vars w):
  Calls Tryz.prog 36 #[.pointer (some ⟨P,0,none⟩),.string line] w (a0t (askB b line) w):=by
 cases hc:a02 line with
 |none=>
  have e:askB b line=(emp,100):=by unfold askB;rw[hc]<;>rfl
  rw[e];exact a89 P n F b line hs w h hV (by rw[hc];rfl)
 | some c=>
  have hsh:=Cmd.shape hc;cases c with
  |put x t=>
   have e:askB b line=(emp,100):=by unfold askB;rw[hc]<;>rfl
   rw[e];exact a89 P n F b line hs w h hV (by rw[hc];rfl)
  |drop x=>
   have e:askB b line=(emp,100):=by unfold askB;rw[hc]<;>rfl
   rw[e];exact a89 P n F b line hs w h hV (by rw[hc];rfl)
  |add x m=>
   have e:askB b line=(emp,100):=by unfold askB;rw[hc]<;>rfl
   rw[e];exact a89 P n F b line hs w h hV (by rw[hc];rfl)
  |stock x=>
   have e:askB b line=a2H x (a06 (allB b)):=by unfold askB;rw[hc]<;>rfl
   rw[e];exact aet P n F b line hs w h hok hV x hc
  |share m l=>
   have e:askB b line=a2p l m (a06 (allB b)):=by unfold askB;rw[hc]<;>rfl
   rw[e];have h1:=hsh.1 m l rfl;exact aeu P n F b line hs w h hok hV m l hc (by omega) (by omega)
  |asked k l ns=>
   have e:askB b line=a0h (ansK k ns) l (a06 (allB b)):=by unfold askB;rw[hc]<;>rfl
   rw[e];have h1:=hsh.2 k l ns rfl;unfold Shp at h1;rcases h1 with⟨rfl,h2,h3⟩|⟨rfl,h2,h3⟩|⟨rfl,h2,h3⟩|⟨rfl,h2,h3⟩
   ·exact a6w P n F b line hs w h hok hV l ns hc (by omega) (by omega)
   ·exact abC P n F b line hs w h hok hV l ns hc
   ·exact acL P n F b line hs w h hok hV l ns hc
   exact aas P n F b line hs w h hok hV l ns hc
theorem a2Q:∀(l:List UInt8),(cutR l).1.length<=l.length/\(cutR l).2.1.length<=l.length
 |[]=>by simp[cutR]
 |b::r=>by
  have:=a2Q r;unfold cutR;split<;>simp<;>omega
theorem bsB_size(l:List UInt8):(bsB l).size=l.length:=by rw[a03,a0N]
theorem a4D(l:List UInt8)(w:World)(hl:l.length<=4000000000):Calls Tryz.prog 67 #[.string (bsB l)] w (a4Y l w):=by
 have:=abA (bsB l) w (by rw[bsB_size];exact hl);rwa[a0N]at this
def natP(o:Option Nat):Nat:=o.getD 0
theorem ajq(o:Option Nat):natV o= .tuple #[.int .i64 (natP o:Nat),.bool o.isSome]:=by cases o<;>rfl
def Cut3(A R:ByteArray)(q:Bool)(w:World)(e:Ending)(w':World):Prop:=e= .returned (.tuple #[.string A,.string R,.bool q])/\Below w.heap.size w w'
def Nat2(p:Nat)(x:Bool)(w:World)(e:Ending)(w':World):Prop:=e= .returned (.tuple #[.int .i64 (p:Nat),.bool x])/\w=w'
def Bool1(x:Bool)(w:World)(e:Ending)(w':World):Prop:=e= .returned (.bool x)/\w=w'
theorem a6C(l:List UInt8)(d:Nat)(w:World)(hd:d<=9)(hl:l.length<=4000000000):Calls Tryz.prog 68 #[.string (bsB l),.int .i64 d] w (Nat2 (natP (natR l d)) (natR l d).isSome w):=by
 have:=a6z (bsB l) d w hd (by rw[bsB_size];exact hl);rw[a0N,ajq]at this;exact this
theorem ajr{l:List UInt8}{k:Nat}:natP (natR l k)<10^k:=by
 cases h:natR l k with
 |none=>exact Nat.pos_of_neZero _
 |some n=>exact(a5Y h).2.1
end Go.Proofs.YtdfkaijeppdhaaaGreatDoor
