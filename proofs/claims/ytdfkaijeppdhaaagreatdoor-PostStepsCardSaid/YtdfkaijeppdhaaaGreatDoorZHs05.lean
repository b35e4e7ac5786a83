/- Part of the proof. -/
import Derived.Test.YtdfkaijeppdhaaaGreatDoorZHs04
set_option maxRecDepth 100000
set_option maxHeartbeats 8000000

namespace Go.Proofs.YtdfkaijeppdhaaaGreatDoor
open Lib (hid)
open Proofs.Tryz Go.RowKit Go.Shelf
theorem below_trans{a b c:World}(h:Below a.heap.size a b)(k:Below b.heap.size b c):Below a.heap.size a c:=h.trans (k.mono h.size)
theorem grow_below(w:World)(k:Nat)(os:Array Obj):Below w.heap.size w (Go.Sort.grow (w.drewN k) os):=Lib.below_grow _ w (aof _) k os
theorem ret_s{a b:ByteArray}(h:a=b):Ending.returned (.string a)= .returned (.string b):=by rw[h]
theorem own_below{w w':World}{base:Nat}{e:TypeId}{size:Nat}{v:Value}{n:Nat}{xs:List Value}(h:w.ownsRow base e size v n xs)(hb:Below w.heap.size w w'):w'.ownsRow base e size v n xs:=by
 refine⟨h.1,?_⟩;rcases h.2 with hn|⟨g,cap,cur,hv,hbg,hg,hrest⟩
 ·exact .inl hn
 have hlt:g<w.heap.size:=by
  rcases Nat.lt_or_ge g w.heap.size with h|h
  ·exact h
  rw[apz h]at hg;cases hg
 exact .inr ⟨g,cap,cur,hv,hbg,(hb.block g hlt).trans hg,hrest⟩
theorem below_append{B base:Nat}{w wr w1:World}{e:TypeId}{size:Nat}{v:Value}{n:Nat}{xs:List Value}{o:Obj}(hB:Below B w wr)(hs:B<=wr.heap.size)(hown:wr.ownsRow base e size v n xs)(hb:B<=base)
  (hg:(wr.alloc o).grownBy w1 v.ownBlock):Below B w w1:=
 (hB.alloc hs o).grown hg km (fun k e=>by have:=(hown.lt k e).1;omega)
theorem a0h(w:World)(v:Value)(t:TypeId):∀j u,([v]:List Value)[j]? =some u->(w.alloc (.cells #[v] t)).cell? ((⟨w.heap.size,0,none⟩:Addr).add j)=some u:=by
 intro j u h;rcases j with _|j
 ·simp only[List.getElem?_cons_zero,Option.some.injEq]at h;subst h;rw[Addr.add_lit];simp
 simp at h
theorem ba_list(a:ByteArray):a.toList=a.data.toList:=Lib.toList_data a
theorem ba_lne{a b:ByteArray}(h:a≠b):(a.toList==b.toList)=false:=by
 rw[beq_eq_false_iff_ne,ba_list,ba_list];intro e;exact h (ba_ext e)
theorem getD_take_snoc{α β:Type}(f:α->β)(l:List α)(k:Nat)(d:α)(h:k<l.length):(l.map f).take (k+1)=(l.map f).take k++[f (l.getD k d)]:=by
 rw[<-aq1,<-aq1,aon h,aoE,aoh,aoj h];rfl
theorem Tryz.infoInt:(prog.info? 3).map (fun i=>(i.zero,i.size,i.bytes))=some (some (.int .i64 0),1,8):=ot
theorem adt(n:Int)(h0: -9223372036854775808<=n)(h1:n<=9223372036854775807)(w:World)(hv:Vars w):
  Calls prog 48 #[.int .i64 n] w fun e w'=>e= .returned (.string (itoaB n))/\Below w.heap.size w w':=
 (Tryz.strconv_Itoa n h0 h1 w hv.tab).mono fun _ _ ⟨h,k,os,hw⟩=>⟨h,hw▸grow_below w k os⟩
theorem itoa_any(n:Int)(h0: -1000000000<=n)(h1:n<=1000000000)(w:World)(hv:Vars w):
  Calls prog 48 #[.int .i64 n] w fun e w'=>e= .returned (.string (itoaB n))/\Below w.heap.size w w':=adt n om om w hv
theorem af1{l:List UInt8}{v:Int}(h:Lib.atoiAll l= .ok v): -9223372036854775808<=v/\v<=9223372036854775807:=by
 unfold Lib.atoiAll at h;split at h
 ·cases h
 simp only at h;split at h
 ·cases h
 ·cases h
 split at h
 ·cases h
 split at h
 ·cases h
 simp only[Lib.NumEnd.ok.injEq]at h;subst h;rename_i h1 h2
 split
 ·rename_i hn;have:=fun k=>h2 ⟨hn,k⟩;omega
 rename_i hn;have:=fun k=>h1 ⟨hn,k⟩;omega
def GivesN(o:Option Int)(w:World)(e:Ending)(w':World):Prop:=
 (match o with
  |some n=>e= .returned (.tuple #[.int .i64 n,.nilIface])
  |none=>∃m N,e= .returned (.tuple #[.int .i64 m,.iface 231 (.pointer (some ⟨N,0,none⟩))]))/\Below w.heap.size w w'
theorem atoi_any(x:ByteArray)(w:World)(hx:x.size<=281474976710656)(hV:Vars w):Calls prog 101 #[.string x] w (GivesN (a0S x) w):=by
 unfold GivesN a0S;rcases h:Lib.atoiAll x.data.toList with v|_|_
 ·refine(Tryz.strconv_Atoi_ok x om v h w).mono ?_
  rintro e w' ⟨rfl,h2⟩;refine⟨rfl,?_⟩;rcases h2 with rfl|⟨t,rfl⟩
  ·exact aoi _ _
  exact Lib.bytesWorld_below _ _ _
 ·obtain⟨ev,h1,h2⟩:=hV.es;refine(Any.strconv_Atoi_syntax Tryz.laysC172 x hx h ev w h1 h2).mono ?_
  rintro e w' ⟨N,rfl,_,_,hb⟩;exact⟨⟨_,N,rfl⟩,hb⟩
 obtain⟨ev,h1,h2⟩:=hV.er;refine(Tryz.strconv_Atoi_range x hx h ev w h1 h2).mono ?_
 rintro e w' ⟨N,rfl,_,_,hb⟩;exact⟨⟨_,N,rfl⟩,hb⟩
theorem akG{s:ByteArray}{v:Int}(h:a0S s=some v):Lib.atoiAll s.data.toList= .ok v:=by
 unfold a0S at h;split at h
 ·rename_i h1;simp only[Option.some.injEq]at h;rw[h1,h]
 cases h
theorem afQ{s:ByteArray}:a0d s=match a0S s with
  |some v=>if decide (itoaB v=s)&&betw (-9999) v 9999 then some v else none
  |none=>none:=by
 unfold a0d a0S;cases Lib.atoiAll s.data.toList<;>rfl
theorem a7V(s:ByteArray)(v:Int)(h:a0d s=some v)(hs:s.size<=281474976710656)(w:World)(hV:Vars w):
  Calls prog 81 #[.string s] w fun e w'=>e= .returned (.tuple #[.int .i64 v,.bool true])/\Below w.heap.size w w':=by
 obtain⟨h1,h2,h3⟩:=a4c h
 have ha:a0S s=some v:=by
  rw[afQ]at h;cases h4:a0S s with
  |none=>rw[h4]at h;cases h
  |some u=>
   rw[h4]at h;simp only at h;split at h
   ·rw[<-Option.some.inj h]
   cases h
 have A:=atoi_any s w hs hV;rw[ha]at A;unfold GivesN at A;have HA:=hid A;have hb:=(betw_iff (-9999) v 9999).2 ⟨h2,h3⟩
 have HB:=hid hb;have HI:=hid (fun W (hW:Vars W)=>itoa_any v om om W hW);have HV:=hid hV;clear A hb hV ha h;subst h1;go_enter func81,ntmps81;go_wp2_with fail
 refine HA.out.mono ?_;rintro e w1 ⟨rfl,hb1⟩;have HV1:=hid (HV.out.below hb1);have HB1:=hid hb1;clear hb1;go_wp2_with fail
 refine(HI.out w1 HV1.out).mono ?_
 rintro e w2 ⟨rfl,hb2⟩;have HB2:=hid (below_trans HB1.out hb2);clear hb2;go_wp2_with fail
 refine(between_any _ _ _ _).mono ?_
 rintro e w3 ⟨rfl,rfl⟩;rw[HB.out];go_wp2;go_ret2;exact⟨rfl,HB2.out⟩
def agx(w:World)(e:Ending)(w':World):Prop:=∃v,e= .returned (.tuple #[.int .i64 v,.bool false])/\Below w.heap.size w w'
theorem a7W(s:ByteArray)(h:a0d s=none)(hs:s.size<=281474976710656)(w:World)(hV:Vars w):
  Calls prog 81 #[.string s] w (agx w):=by
 rw[afQ]at h;have A:=atoi_any s w hs hV;cases ha:a0S s with
 |none=>
  rw[ha]at A;unfold GivesN at A;have HA:=hid A;clear A h ha hV;go_enter func81,ntmps81;go_wp2_with fail
  refine HA.out.mono ?_;rintro e w1 ⟨⟨m,N,rfl⟩,hb1⟩;have HB1:=hid hb1;clear hb1;go_wp2;go_ret2;exact⟨m,rfl,HB1.out⟩
 | some v=>
  rw[ha]at A h;unfold GivesN at A;have hvb:=af1 (akG ha);have HI:=hid (fun W (hW:Vars W)=>adt v hvb.1 hvb.2 W hW);have HA:=hid A;have HV:=hid hV;simp only at h;by_cases hi:itoaB v=s
  ·have hb:betw (-9999) v 9999=false:=by
    cases hb:betw (-9999) v 9999 with
    |false=>rfl
    |true=>rw[decide_eq_true hi,hb]at h;cases h
   have HB:=hid hb;clear A hb hV ha h hvb;subst hi;go_enter func81,ntmps81;go_wp2_with fail
   refine HA.out.mono ?_;rintro e w1 ⟨rfl,hb1⟩;have HV1:=hid (HV.out.below hb1);have HB1:=hid hb1;clear hb1;go_wp2_with fail
   refine(HI.out w1 HV1.out).mono ?_
   rintro e w2 ⟨rfl,hb2⟩;have HB2:=hid (below_trans HB1.out hb2);clear hb2;go_wp2_with fail
   refine(between_any _ _ _ _).mono ?_
   rintro e w3 ⟨rfl,rfl⟩;rw[HB.out];go_wp2;go_ret2;exact⟨v,rfl,HB2.out⟩
  have hne:=ba_lne hi;generalize itoaB v=q at *;clear A hV ha h hvb hi;go_enter func81,ntmps81;go_wp2_with fail
  refine HA.out.mono ?_;rintro e w1 ⟨rfl,hb1⟩;have HV1:=hid (HV.out.below hb1);have HB1:=hid hb1;clear hb1;go_wp2_with fail
  refine(HI.out w1 HV1.out).mono ?_
  rintro e w2 ⟨rfl,hb2⟩;have HB2:=hid (below_trans HB1.out hb2);clear hb2;go_wp2;go_ret2;exact⟨v,rfl,HB2.out⟩
def StrsAt(w:World)(v:Value)(l:List ByteArray):Prop:=
 ∃(a:Option Addr) (cap:Nat),v= .slice a l.length cap/\l.length<=cap/\cap<=281474976710656/\
  (0<l.length->∃b off,a=some ⟨b,off,none⟩/\∀j,j<l.length->w.cell? ⟨b,off+j,none⟩=some (.string (l.getD j emp)))
theorem StrsAt.below{w w':World}{v:Value}{l:List ByteArray}(h:StrsAt w v l)(hb:Below w.heap.size w w'):StrsAt w' v l:=by
 obtain⟨a,cap,rfl,hl,hc,h⟩:=h;refine⟨a,cap,rfl,hl,hc,fun h0=>?_⟩;obtain⟨b,off,ha,hc⟩:=h h0;exact⟨b,off,ha,fun j hj=>keep_cell hb (hc j hj)⟩
theorem StrsAt.nil{w:World}{v:Value}(h:StrsAt w v []):∃a cap,v= .slice a 0 cap:=by
 obtain⟨a,cap,rfl,_⟩:=h;exact⟨a,cap,rfl⟩
theorem StrsAt.cons{w:World}{v:Value}{l:List ByteArray}(h:StrsAt w v l)(h0:0<l.length):∃b off cap,v= .slice (some ⟨b,off,none⟩) l.length cap/\l.length<=cap/\cap<=281474976710656/\∀j,j<l.length->w.cell? ⟨b,off+j,none⟩=some (.string (l.getD j emp)):=by
 obtain⟨a,cap,rfl,hl,hc,h⟩:=h;obtain⟨b,off,rfl,hx⟩:=h h0;exact⟨b,off,cap,rfl,hl,hc,hx⟩
def a3k(b:Bool)(v:Value):Value:=if b then v else .slice none 0 0
theorem air{l:List ByteArray}{k:Nat}(h:k<l.length):(l.take (k+1)).all a03=((l.take k).all a03&&a03 (l.getD k emp)):=by
 rw[aon h,List.all_append,aoh,aoj h];simp
theorem a4e(v:Value)(l:List ByteArray)(w:World)(hv:StrsAt w v l):
  Calls prog 89 #[v] w fun e w'=>e= .returned (.tuple #[a3k (l.all a03) v,.bool (l.all a03)])/\Below w.heap.size w w':=by
 by_cases h0:0<l.length
 ·obtain⟨b,off,cap,rfl,hcap,hcc,hq⟩:=hv.cons h0;have HQ:=hid hq;clear hq hv;obtain⟨nl,hnl⟩:∃nl,nl=l.length:=⟨_,rfl⟩
  have HN:=hid hnl;rw[<-hnl]at hcap h0⊢;clear hnl;obtain⟨R,hR⟩:∃R:Bool,R=l.all a03:=⟨_,rfl⟩
  have HR:=hid hR;rw[<-hR];clear hR;go_enter func89,ntmps89;go_wp2;go_loopw [8] (fun i wr=>∃k:Nat,k<=nl/\i= .int .i64 k/\Hid ((l.take k).all a03=true)/\Below w.heap.size w wr) (fun i _=>nl-(intOf i).toNat)
  case atStart=>exact⟨0,aot _,rfl,hid rfl,aoi _ _⟩
  case round=>
   obtain⟨k,hk,rfl,hall,hbel⟩:=hrel;by_cases hlt:k<nl
   ·have hc:=keep_cell hbel (HQ.out k (by rw[<-HN.out];exact hlt));have HS:=hid (air (l:=l) (k:=k) (by rw[<-HN.out];exact hlt));generalize l.getD k emp=x at *;have NC:=hid (a3I x wr);have HB:=hid hbel;clear hbel;cases hx:a03 x with
    |true=>
     rw[hx]at NC;have HX:=hid hx;clear hx;go_wp2_with fail
     refine NC.out.mono ?_;rintro e w1 ⟨rfl,hb1⟩;have HB1:=hid (HB.out.trans (hb1.mono HB.out.size));clear hb1;go_wp2;go_roundw
     case rel=>exact⟨k+1,om,by go_num,hid (by rw[HS.out,hall.out,HX.out];rfl),HB1.out⟩
     case measure=>simp[intOf];omega
    | false=>
     rw[hx]at NC;have HX:=hid hx;clear hx;go_wp2_with fail
     refine NC.out.mono ?_;rintro e w1 ⟨rfl,hb1⟩;have HB1:=hid (HB.out.trans (hb1.mono HB.out.size));clear hb1;go_wp2;go_ret2
     have:R=false:=by
      rw[HR.out];refine Bool.eq_false_iff.2 fun h=>?_;have h2:(l.take (k+1)).all a03=true:=ap6.2 fun y hy=>ap6.1 h y (ap2 hy)
      rw[HS.out,HX.out]at h2;simp at h2
     subst this;exact⟨rfl,HB1.out⟩
   have e:k=nl:=om;subst e
   have hRt:R=true:=by
    have:=hall.out;rw[HN.out,aoK]at this;rw[HR.out,this]
   subst hRt;go_wp2;go_ret2;exact⟨rfl,hbel⟩
 have hz:l=[]:=aoz.1 om;subst hz;obtain⟨a,cap,rfl⟩:=hv.nil;clear hv h0;go_enter func89,ntmps89;go_wp2;go_loopw [8] (fun i wr=>i= .int .i64 0/\w=wr) (fun _ _=>0)
 case atStart=>exact⟨rfl,rfl⟩
 case round=>
  obtain⟨rfl,rfl⟩:=hrel;go_wp2;go_ret2;exact⟨rfl,aoi _ _⟩
def amq(w:World)(o:Option (List Int))(e:Ending)(w':World):Prop:=
 (match o with
  |some ns=>∃v,e= .returned (.tuple #[v,.bool true])/\w'.ownsRow w.heap.size 3 1 v ns.length (ns.map (Value.int .i64))
  |none=>e= .returned (.tuple #[.slice none 0 0,.bool false]))/\Below w.heap.size w w'
theorem ais{l:List ByteArray}{k:Nat}(h:k<l.length):allS a0d (l.take (k+1))=match allS a0d (l.take k),a0d (l.getD k emp)with
  |some ys,some y=>some (ys++[y])
  |_,_=>none:=by
 rw[aon h,allS_snoc,aoh,aoj h,aoW];cases allS a0d (l.take k)<;>cases a0d l[k]<;>rfl
theorem ait{l:List ByteArray}{k:Nat}(h:allS a0d (l.take k)=none):allS a0d l=none:=by
 cases hx:allS a0d l with
 |none=>rfl
 | some ys=>
  exfalso
  have:∀x∈l.take k,∃y,a0d x=some y:=fun x hx2=>by
   cases hn:a0d x with
   |some y=>exact⟨y,rfl⟩
   |none=>rw[allS_bad a0d l (ap2 hx2) hn]at hx;cases hx
  generalize l.take k=m at *;clear hx;induction m with
  |nil=>cases h
  |cons z zs ih=>
   obtain⟨y,hy⟩:=this z oz;rw[allS,hy]at h;cases hz:allS a0d zs with
   |none=>exact ih hz (fun x hx=>this x (by simp[hx]))
   |some ys2=>rw[hz]at h;cases h
theorem a2F(v:Value)(l:List ByteArray)(hl:l.length<=1000000)(hsz:∀x∈l,x.size<=281474976710656)(w:World)(hv:StrsAt w v l)(hV:Vars w):
  Calls prog 88 #[v] w (amq w (allS a0d l)):=by
 obtain⟨i0,hi0,hz0,hz1,hz2⟩:=info_parts Tryz.infoInt;obtain⟨R,hR⟩:∃R,R=allS a0d l:=⟨_,rfl⟩
 have HR:=hid hR;rw[<-hR];clear hR;have HSZ:=hid hsz;have HV:=hid hV;clear hsz hV;by_cases h0:0<l.length
 ·obtain⟨b,off,cap,rfl,hcap,hcc,hq⟩:=hv.cons h0;have HQ:=hid hq;clear hq hv;obtain⟨nl,hnl⟩:∃nl,nl=l.length:=⟨_,rfl⟩
  have HN:=hid hnl;rw[<-hnl]at hcap h0 hl⊢;clear hnl;go_enter func88,ntmps88;go_wp2;go_loopw [4,11] (fun o i wr=>∃(k:Nat) (ns:List Int),k<=nl/\i= .int .i64 k/\Hid (allS a0d (l.take k)=some ns)/\Hid (ns.length=k)/\wr.ownsRow w.heap.size 3 1 o k (ns.map (Value.int .i64))/\Below w.heap.size w wr) (fun _ i _=>nl-(intOf i).toNat)
  case atStart=>exact⟨0,[],aot _,rfl,hid rfl,hid rfl,World.ownsRow_nil _ _ _ _,aoi _ _⟩
  case round=>
   obtain⟨k,ns,hk,rfl,hall,hlen,hown,hbel⟩:=hrel;have hsz1:=hbel.size;by_cases hlt:k<nl
   ·have hc:=keep_cell hbel (HQ.out k (by rw[<-HN.out];exact hlt));have HS:=hid (ais (l:=l) (k:=k) (by rw[<-HN.out];exact hlt));have HXS:=hid (HSZ.out (l.getD k emp) (by rw[aoh,aoj (by rw[<-HN.out];exact hlt)];exact aoZ _));generalize l.getD k emp=x at *;have HB:=hid hbel;have HO:=hid hown;have HVr:=hid (HV.out.below hbel);clear hbel hown;cases hx:a0d x with
    |some y=>
     rw[hx]at HS;have NC:=hid (a7V x y hx HXS.out wr HVr.out);clear hx;go_wp2_with fail
     refine NC.out.mono ?_;rintro e w1 ⟨rfl,hb1⟩;have HO1:=hid (own_below HO.out hb1);have HB1:=hid (HB.out.trans (hb1.mono HB.out.size));have hsz2:w.heap.size<=w1.heap.size:=HB1.out.size;clear hb1;go_wp2_with (at_builtin;refine wpList_append_own _ rfl _ _ 122 rfl w.heap.size 3 i0 (.int .i64 0) 1 8 underlying122 hi0 hz0 hz1 hz2 rfl ox _ _ _ rfl (HO1.out.alloc _) ⟨w1.heap.size,0,none⟩ 1 1 [.int .i64 y] rfl rfl ?c1 ?c2 ?c3 ?c4 ?c5 ?_)
     case c1=>exact(a0h _ _ _)
     case c2=>intro u hu;simp at hu;subst hu;rfl
     case c3=>unfold maxLen;omega
     case c4=>omega
     case c5=>simp;omega
     intro v' w2 hown' hgrow _;have R:=below_append HB1.out hsz2 HO1.out (aof _) hgrow;clear hgrow;go_wp2;go_roundw
     case rel=>exact⟨k+1,ns++[y],om,by go_num,hid (by rw[HS.out,hall.out]),hid (by rw[aol,hlen.out];rfl),by rw[aoE];exact hown',R⟩
     case measure=>simp[intOf];omega
    | none=>
     have NC:=hid (a7W x hx HXS.out wr HVr.out);have HX:=hid hx;clear hx;go_wp2_with fail
     refine NC.out.mono ?_;rintro e w1 ⟨y,rfl,hb1⟩;have HB1:=hid (HB.out.trans (hb1.mono HB.out.size));clear hb1;go_wp2;go_ret2
     have:R=none:=by
      rw[HR.out];refine ait (k:=k+1) ?_;rw[HS.out,HX.out];cases allS a0d (l.take k)<;>rfl
     subst this;exact⟨rfl,HB1.out⟩
   have e:k=nl:=om;subst e
   have hRt:R=some ns:=by
    have:=hall.out;rw[HN.out,aoK]at this;rw[HR.out,this]
   subst hRt;have HO:=hid hown;clear hown;go_wp2;go_ret2;exact⟨⟨_,rfl,by have h1:=hlen.out;have h2:=HO.out;rw[h1];exact h2⟩,hbel⟩
 have hz:l=[]:=aoz.1 om;subst hz;obtain⟨a,cap,rfl⟩:=hv.nil;have hRt:R=some []:=HR.out;subst hRt;clear hv h0;go_enter func88,ntmps88;go_wp2;go_loopw [4,11] (fun o i wr=>o= .slice none 0 0/\i= .int .i64 0/\w=wr) (fun _ _ _=>0)
 case atStart=>exact⟨rfl,rfl,rfl⟩
 case round=>
  obtain⟨rfl,rfl,rfl⟩:=hrel;go_wp2;go_ret2;exact⟨⟨_,rfl,World.ownsRow_nil _ _ _ _⟩,aoi _ _⟩
end Go.Proofs.YtdfkaijeppdhaaaGreatDoor
namespace Go.Proofs.YtdfkaijeppdhaaaGreatDoor
open Lib (hid)
open Proofs.Tryz Go.RowKit Go.Shelf
theorem a0W{w:ByteArray}{l:List UInt8}(h:w≠⟨l.toArray⟩):(w.toList==l)=false:=by
 rw[beq_eq_false_iff_ne,ba_list];intro e;exact h (ba_ext e)
theorem a4O{n:Nat}{w w':World}(h:Below n w w')(k:Nat):Below n w (w'.drewN k):=⟨h.os,h.tape.trans rfl,h.output,h.size,h.block⟩
theorem a94{c:UInt8}{s x:ByteArray}(h:x∈splitA c s):x.size<=s.size:=by
 have key:∀(l:List UInt8) (k:Nat) (x:List UInt8),x∈a0l c k l->x.length<=l.length:=by
  intro l;induction l with
  |nil=>intro k x h;cases k<;>simp[a0l]at h<;>simp[h]
  | cons b r ih=>
   intro k x h;cases k with
   |zero=>simp[a0l]at h;simp[h]
   | succ k=>
    unfold a0l at h;split at h
    ·rcases aov.1 h with rfl|h
     ·simp
     have:=ih k x h;simp;omega
    split at h
    ·simp at h;subst h;simp
    rename_i y ys he
    rcases aov.1 h with rfl|h
    ·have:=ih (k+1) y (by rw[he];simp);simp;omega
    have:=ih (k+1) x (by rw[he];simp[h]);simp;omega
 unfold splitA a1C at h;obtain⟨l,hl,rfl⟩:=ap1.1 h;have:=key _ _ _ hl;rw[a05,a05,a1t];exact this
def anv(w:World)(l:List ByteArray)(e:Ending)(w':World):Prop:=
 (∃a c,e= .returned (.tuple #[.string (l.headD emp),.slice a (l.length-1) c])/\(1<l.length->a=some ⟨w.heap.size,1,none⟩/\c=l.length-1/\∀j,j+1<l.length->w'.cell? ⟨w.heap.size,1+j,none⟩=some (.string (l.getD (j+1) emp))))/\Below w.heap.size w w'
theorem akH{w:World}{l:List ByteArray}{t:TypeId}{j:Nat}(h:j<l.length):(w.alloc (.cells (l.map Value.string).toArray t)).cell? ⟨w.heap.size,j,none⟩=some (.string (l.getD j emp)):=by
 have h2:=World.alloc_heap_new w (.cells (l.map Value.string).toArray t);refine heap_cell h2 ?_;rw[List.getElem?_toArray,apr,aoj h,aoh,aoj h];rfl
theorem ac4(s:ByteArray)(hs:s.size<=4000000000)(w:World)(hV:Vars w):
  Calls prog 84 #[.string s] w (anv w (splitA 32 s)):=by
 obtain⟨m,hm⟩:=hV.ml;have S:=Tryz.strings_Split s ⟨#[32]⟩ m w om hm ox;have hlen:=splitA_len 32 s;rw[<-aa0]at hlen;rw[agp]at S
 have hcnt:(splitA 32 s).length<=s.size+1:=by
  rw[splitA_len];have:=aq6 (a:=(32:UInt8)) (l:=s.data.toList);rw[<-a05]at this;omega
 have hne:=abY 32 s;generalize splitA 32 s=l at *;generalize Lib.countB s ⟨#[32]⟩=q at *;have HL:=hid hlen;have hq:q<=4000000000:=om;have HR:=hid (fun j (hj:j<l.length)=>akH (w:=w) (l:=l) (t:=9) hj);obtain⟨w1,hw1⟩:∃w1,w1=w.alloc (.cells (l.map Value.string).toArray 9):=⟨_,rfl⟩
 have HR1:Hid (∀j,j<l.length->w1.cell? ⟨w.heap.size,j,none⟩=some (.string (l.getD j emp))):=hid (by rw[hw1];exact HR.out);have HB1:Hid (Below w.heap.size w w1):=hid (by rw[hw1];exact(aoi _ w).alloc (aof _) _);have HS:=hid S;have h0:=HR1.out 0 om;have hg0:l.getD 0 emp=l.headD emp:=by cases l<;>rfl
 rw[hg0]at h0;have HW:=hid hw1;clear S hlen hne hcnt hm hV hw1 HR hg0;obtain⟨hd,hhd⟩:∃x,x=l.headD emp:=⟨_,rfl⟩
 have HH:=hid hhd;rw[<-hhd]at h0;clear hhd;rcases apI q with h1|h1
 ·subst h1;go_enter func84,ntmps84;go_wp2_with fail
  refine HS.out.mono ?_;rintro e w' ⟨rfl,hw'⟩;obtain rfl:w'=w1:=hw'.trans HW.out.symm;clear hw';go_wp2;go_quiet (fail)
  all_goals go_wp2
  go_ret2;refine⟨⟨_,_,by rw[<-HH.out,HL.out];rfl,fun h=>?_⟩,a4O HB1.out _⟩;have:=HL.out;omega
 go_enter func84,ntmps84;go_wp2_with fail
 refine HS.out.mono ?_;rintro e w' ⟨rfl,hw'⟩;obtain rfl:w'=w1:=hw'.trans HW.out.symm;clear hw';go_wp2;go_quiet (fail)
 all_goals go_wp2
 go_ret2;have hl2:=HL.out;refine⟨⟨_,_,by rw[<-HH.out,hl2];rfl,fun h=>⟨by simp,om,fun j hj=>?_⟩⟩,a4O HB1.out _⟩;have:=HR1.out (j+1) hj;rw[Nat.add_comm 1 j];exact this
end Go.Proofs.YtdfkaijeppdhaaaGreatDoor
