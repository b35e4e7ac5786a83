/- Part of the proof. -/
import Derived.Test.YtdfkaijeppdhaaaGreatDoorZHs22
set_option maxRecDepth 100000
set_option maxHeartbeats 8000000
set_option linter.unusedSimpArgs false
set_option linter.unusedVariables false

namespace Go.Proofs
open Proofs.Tryz Go.Shelf
def Tryz.lays143_ren:Go.Shelf.Ren:=⟨fun|143=>168|219=>141|217=>165|225=>184|224=>185|267=>186|266=>209|314=>224|n=>n,fun|9=>9|3=>3|4=>4|5=>5|46=>189|146=>280|51=>30|n=>n,fun|1=>0|n=>n⟩
theorem lays143:Go.Proofs.Lays.n143 prog Tryz.lays143_ren:={
 mixed:=ot
 f143:=func168.trans oq
 f217:=func165.trans oq
 f219:=func141.trans oq
 f224:=func185.trans oq
 f225:=func184.trans oq
 f266:=func209.trans oq
 f267:=func186.trans oq
 f314:=func224.trans oq
 t3:=underlying3
 a3:=isAgg3
 z3:=sizeOf3
 v3:=zeroValue3
 t4:=underlying4
 a4:=isAgg4
 z4:=sizeOf4
 v4:=zeroValue4
 t5:=underlying5
 a5:=isAgg5
 z5:=sizeOf5
 v5:=zeroValue5
 t9:=underlying9
 a9:=isAgg9
 z9:=sizeOf9
 v9:=zeroValue9
 t46:=underlying189
 a46:=isAgg189
 z46:=sizeOf189
 v46:=zeroValue189
 t51:=underlying30
 a51:=isAgg30
 z51:=sizeOf30
 v51:=zeroValue30
 t146:=underlying280
 a146:=isAgg280
 z146:=sizeOf280
 v146:=zeroValue280
 g1:=by kernel_rfl}
theorem Tryz.strings_Index_one(s:ByteArray)(c:UInt8)(w:World):
  Calls prog 168 #[.string s,.string ⟨#[c]⟩] w fun e w'=>e= .returned (.int .i64 (Lib.indexByte s.data.toList c))/\w'=w:=Any.strings_Index_one lays143 s c w
end Go.Proofs
namespace Go.Proofs.YtdfkaijeppdhaaaGreatDoor.Td
open Lib (hid)
open Proofs.Tryz Go.RowKit Go.Shelf
structure Vars(w:World):Prop where
 tab:Lib.TabIs prog w "internal/strconv.uint64pow10" .u64 Lib.pow10Tab
 es:∃ev,w.cell? ⟨2,0,none⟩=some ev/\(ev= .nilIface\/∃te pe,ev= .iface te pe)
 er:∃ev,w.cell? ⟨3,0,none⟩=some ev/\(ev= .nilIface\/∃te pe,ev= .iface te pe)
theorem aft{n:String}{g:Nat}{k:IntKind}{zs:List Int}{w w':World}(hg:prog.globalNamed n=some g)(h:Lib.TabIs prog w n k zs)(hb:Below w.heap.size w w'):Lib.TabIs prog w' n k zs:=by
 unfold Lib.TabIs World.var? at h⊢;rw[hg]at h⊢;simp only[Option.bind_some]at h⊢
 have hlt:g<w.heap.size:=by
  rcases Nat.lt_or_ge g w.heap.size with h'|h'
  ·exact h'
  rw[apz h']at h;cases h
 rw[hb.block g hlt];exact h
theorem Vars.below{w w':World}(h:Vars w)(hb:Below w.heap.size w w'):Vars w':=by
 obtain⟨e1,h1,k1⟩:=h.es;obtain⟨e2,h2,k2⟩:=h.er;exact⟨aft (g:=1) ot h.tab hb,⟨e1,keep_cell hb h1,k1⟩,⟨e2,keep_cell hb h2,k2⟩⟩
def a7l(l:List UInt8):Value:=.string ⟨l.toArray⟩
def itoaB(n:Int):ByteArray:=⟨(Lib.itoa n).toArray⟩
theorem grow_below(w:World)(k:Nat)(os:Array Obj):Below w.heap.size w (Go.Sort.grow (w.drewN k) os):=Lib.below_grow _ w (aof _) k os
theorem itoa_any(n:Int)(h0: -1000000<=n)(h1:n<=1000000)(w:World)(hv:Vars w):
  Calls prog 48 #[.int .i64 n] w fun e w'=>e= .returned (.string (itoaB n))/\Below w.heap.size w w':=
 (Tryz.strconv_Itoa n om om w hv.tab).mono fun _ _ ⟨h,k,os,hw⟩=>⟨h,hw▸grow_below w k os⟩
theorem ret_s{a b:ByteArray}(h:a=b):Ending.returned (.string a)= .returned (.string b):=by rw[h]
theorem a5x{s t:ByteArray}(h:s.data.toList=t.data.toList):s=t:=by
 cases s;cases t
 simp only[ByteArray.mk.injEq];exact Array.toList_inj.1 h
theorem nDigits_le:∀(k u:Nat),u<10^(k+1)->Lib.nDigits u<=k+1
 |0,u,h=>by rw[Lib.nDigits_small (by simpa using h)];exact aof _
 |k+1,u,h=>by
  by_cases h1:u<10
  ·rw[Lib.nDigits_small h1];omega
  rw[Lib.nDigits_big h1];have:=nDigits_le k (u / 10) (by rw[Nat.pow_succ]at h;omega);omega
theorem itoa_len{n:Int}(h0: -1000000000<=n)(h1:n<=1000000000):(Lib.itoa n).length<=11:=by
 have hp:(10:Nat)^10=10000000000:=by decide
 unfold Lib.itoa;split
 ·rw[aom,Lib.decDigits_length];have:=nDigits_le 9 n.natAbs om;omega
 rw[Lib.decDigits_length];have:=nDigits_le 9 n.toNat om;omega
theorem a7m{n:Int}(h0: -1000000000<=n)(h1:n<=1000000000):(itoaB n).size<=11:=by
 have:=itoa_len h0 h1;simpa [itoaB,ByteArray.size]using this
theorem alp{n:Int}(h:n<0):Lib.itoa n=45::Lib.itoa (-n):=by
 unfold Lib.itoa;rw[if_pos h,if_neg om];congr 2;omega
theorem ahh{n:Int}(h:0<=n)(h2:n<10):Lib.itoa n=[UInt8.ofNat (48+n.toNat)]:=by
 unfold Lib.itoa;rw[if_neg om,Lib.decDigits_one om]
theorem alq{n:Int}(h:10<=n):Lib.itoa n=Lib.itoa (n / 10)++Lib.itoa (n % 10):=by
 have h1:¬n.toNat<10:=om;have h2:(n / 10).toNat=n.toNat / 10:=om
 have h3:(n % 10).toNat=n.toNat % 10:=om
 unfold Lib.itoa;rw[if_neg om,if_neg om,if_neg om,h2,h3];conv=>lhs;rw[Lib.decDigits,dif_neg h1]
 rw[Lib.decDigits_one (i:=n.toNat % 10) om]
theorem a9d(u:Nat):∀(n:Int) (w:World),0<=n->n.toNat<=u->n<=1000000000->
  Calls prog 222 #[.int .i64 n] w fun e w'=>e= .returned (.string (itoaB n))/\Below w.heap.size w w':=by
 induction u using Nat.strongRecOn with
 | _ u ih=>
  intro n w h0 hu h1;have h0':¬n<0:=om;by_cases h:n<10
  ·have E:=hid (ahh h0 h);have hb8:(UInt8.ofNat (48+n.toNat)).toNat=48+n.toNat:=by rw[UInt8.toNat_ofNat'];omega
   have hcv:=run_convert_bytes_back (P:=prog) (w.alloc (.cells #[.int .u8 (48+n)] 5)) 65 9 5 ⟨w.heap.size,0,none⟩ 1 [UInt8.ofNat (48+n.toNat)] underlying65 underlying5 underlying9 (by
    intro j hj;have:j=0:=by simpa using hj
    subst this;simp only[aoP,hb8];have e:(((48+n.toNat:Nat)):Int)=48+n:=om;rw[e];show World.cell? _ ⟨w.heap.size,0+0,none⟩=_;simp)
   clear hb8;rw[show [UInt8.ofNat (48+n.toNat)].length=1 from rfl]at hcv;generalize UInt8.ofNat (48+n.toNat)=bb at *;go_enter func222,ntmps222;go_wp2;go_ret;exact⟨ret_s (by unfold itoaB;rw[E.out]),(aoi _ _).alloc (aof _) _⟩
  have E:=hid (alq (n:=n) om);have z1:=a7m (n:=n / 10) om om;have z2:=a7m (n:=n % 10) om om;have z3:(itoaB (n / 10)).size+(itoaB (n % 10)).size<=9223372036854775807:=om
  clear z1 z2;have I1:=hid (fun W=>ih (n / 10).toNat om (n / 10) W om om om);have I2:=hid (fun W=>ih (n % 10).toNat om (n % 10) W om om om);clear ih hu;go_enter func222,ntmps222;go_wp2_with fail
  refine(I1.out _).mono ?_
  rintro e w1 ⟨rfl,hb1⟩;go_wp2_with fail
  refine(I2.out _).mono ?_
  rintro e w2 ⟨rfl,hb2⟩;go_wp2;go_ret;exact⟨ret_s (by unfold itoaB;rw[E.out];apply a5x;simp),below_trans hb1 hb2⟩
theorem a9e(n:Int)(w:World)(h0: -1000000000<=n)(h1:n<=1000000000):
  Calls prog 222 #[.int .i64 n] w fun e w'=>e= .returned (.string (itoaB n))/\Below w.heap.size w w':=by
 by_cases h:n<0
 ·have E:=hid (alp h);have D:=hid (fun W=>a9d (-n).toNat (-n) W om (aof _) om);have z2:=a7m (n:= -n) om om;have z3:(ByteArray.mk #[45]).size+(itoaB (-n)).size<=9223372036854775807:=by have:(ByteArray.mk #[45]).size=1:=rfl;omega
  have z4:1+(itoaB (-n)).size<=9223372036854775807:=om
  clear z2;go_enter func222,ntmps222;go_wp2_with fail
  refine(D.out _).mono ?_
  rintro e w1 ⟨rfl,hb1⟩;go_wp2;go_ret;exact⟨ret_s (by unfold itoaB;rw[E.out];apply a5x;simp),hb1⟩
 exact a9d n.toNat n w om (aof _) h1
def a1b(l:List Int):List UInt8:=Lib.join (l.map Lib.itoa) [44]
def a27(t:List (List Int)):List UInt8:=Lib.join (t.map a1b) [59]
theorem ajE(sep x:List UInt8):∀(xs:List (List UInt8)),Lib.join (xs++[x]) sep=if xs=[]then x else Lib.join xs sep++(sep++x)
 |[]=>by simp[Lib.join_one]
 |y::ys=>by
  rw[aoA,Lib.join_cons,Lib.join_cons,if_neg oz];simp[Lib.joinTail]
theorem join_len(sep:List UInt8)(B:Nat)(xs:List (List UInt8))(h:∀x∈xs,x.length<=B):(Lib.join xs sep).length<=xs.length * (B+sep.length):=by
 cases xs with
 |nil=>simp[Lib.join_nil]
 | cons y ys=>
  rw[Lib.join_cons,aol];have h1:=h y oz
  have h2:(Lib.joinTail sep ys).length<=ys.length * (B+sep.length):=by
   have hy:∀x∈ys,x.length<=B:=fun x hx=>h x (by simp[hx]);clear h h1;induction ys with
   |nil=>simp[Lib.joinTail]
   |cons z zs ih=>
    have h3:=ih (fun x hx=>hy x (by simp[hx]));have h4:=hy z oz;simp only[Lib.joinTail,aoJ,List.flatten_cons,aol,aom]at h3⊢;rw[aq7];omega
  rw[aom,aq7];omega
theorem a9I{l:List Int}(h:a43 l=true):(a1b l).length<=144:=by
 obtain⟨h1,h2,h3⟩:=(a2p l).1 h
 have:=join_len [44] 11 (l.map Lib.itoa) (fun x hx=>by
  obtain⟨n,hn,rfl⟩:=ap1.1 hx;have:=h3 n hn;exact itoa_len om om)
 simp only[aoB,aom,aow]at this;unfold a1b;omega
theorem alr{t:List (List Int)}(h:Vld t):(a27 t).length<=580:=by
 have hh:=h.hi
 have:=join_len [59] 144 (t.map a1b) (fun x hx=>by
  obtain⟨l,hl,rfl⟩:=ap1.1 hx;exact a9I ((a2p l).2 (h.wave l hl)))
 simp only[aoB,aom,aow]at this;unfold a27;omega
theorem Tryz.infoStr:(prog.info? 9).map (fun i=>(i.zero,i.size,i.bytes))=some (some (.string ⟨#[]⟩),1,16):=ot
theorem own_below{w w':World}{base:Nat}{e:TypeId}{size:Nat}{v:Value}{n:Nat}{xs:List Value}(h:w.ownsRow base e size v n xs)(hb:Below w.heap.size w w'):w'.ownsRow base e size v n xs:=by
 refine⟨h.1,?_⟩;rcases h.2 with hn|⟨g,cap,cur,hv,hbg,hg,hrest⟩
 ·exact .inl hn
 have hlt:g<w.heap.size:=by
  rcases Nat.lt_or_ge g w.heap.size with h|h
  ·exact h
  rw[apz h]at hg;cases hg
 exact .inr ⟨g,cap,cur,hv,hbg,(hb.block g hlt).trans hg,hrest⟩
theorem join_own(base:Nat)(e:TypeId)(v:Value)(xs:List ByteArray)(sep:ByteArray)(w:World)(h:w.ownsRow base e 1 v xs.length (xs.map Value.string))(hx:xs≠[])
  (hN:xs.length<=1000)(hlen:(Lib.join (xs.map (·.data.toList)) sep.data.toList).length<=140737488355328):
  Calls prog 85 #[v,.string sep] w fun e w'=>e= .returned (a7l (Lib.join (xs.map (·.data.toList)) sep.data.toList))/\Below w.heap.size w w':=by
 rcases h.2 with⟨_,h0⟩|⟨g,cap,cur,rfl,_,hg,hcap,_⟩
 ·exact absurd (aoz.1 h0) hx
 refine Tryz.strings_Join g 0 cap xs sep w (fun j x hj=>?_) (aog.1 hg).1 om hcap hlen
 have hj2:j<xs.length:=(api.1 hj).1
 rw[ap5,h.cellAt j om,apr,hj];rfl
theorem getD_take_snoc{α β:Type}(f:α->β)(l:List α)(k:Nat)(d:α)(h:k<l.length):(l.map f).take (k+1)=(l.map f).take k++[f (l.getD k d)]:=by
 rw[<-aq1,<-aq1,aon h,aoE,aoh,aoj h];rfl
theorem text_any(v:Value)(t:List (List Int))(w:World)(hv:RowsAt w v t)(ht:Vld t)(hV:Vars w):
  Calls prog 195 #[v] w fun e w'=>e= .returned (a7l (a27 t))/\Below w.heap.size w w':=by
 have hlo:=ht.lo;have hhi:=ht.hi;have HT:=hid ht;have HV:=hid hv;have HVR:=hid hV;obtain⟨i0,hi0,hz0,hz1,hz2⟩:=info_parts Tryz.infoStr;obtain⟨a,cap,rfl,hl,hq⟩:=id hv;obtain⟨b,off,rfl,hc⟩:=hq om;clear hq hv ht hV;go_enter func195,ntmps195;go_wp2
 go_loopw [3,11] (fun o i wr=>∃k:Nat,k<=t.length/\i= .int .i64 k/\wr.ownsRow w.heap.size 9 1 o k ((t.map (fun l=>a7l (a1b l))).take k)/\Below w.heap.size w wr)
  (fun _ i _=>t.length-(intOf i).toNat)
 case atStart=>exact⟨0,aot _,rfl,World.ownsRow_nil _ _ _ _,aoi _ _⟩
 case round=>
  obtain⟨k,hk,rfl,hown,hbel⟩:=hrel;obtain⟨wo,rfl⟩:∃wo:World,wo=wr:=⟨_,rfl⟩
  have hsz:=hbel.size;have HO:=hid hown;have HB:=hid hbel;by_cases hlt:k<t.length
  ·obtain⟨x,hx0,hi⟩:=hc k hlt;have hmem:=a3y hlt;have SN:=hid (getD_take_snoc (fun l=>a7l (a1b l)) t k [] hlt);have hwv:=(a2p _).2 (HT.out.wave _ hmem)
   have hw3:=HT.out.wave _ hmem;have hTL:=hid (a9I hwv);generalize t.getD k []=lk at *;have hl1:=hw3.1;have hl2:=hw3.2.1;have HW:=hid hw3.2.2;have hx:=keep_cell hbel hx0;have hiw:=hi.below hbel;obtain⟨lb,lo,lc,rfl,hlc⟩:=ints_cell hiw om;have HLC:=hid hlc;clear hx0 hi hiw hlc hw3 hwv hmem hown hbel;go_wp2
   go_loopw [6,17] (fun o i wr=>∃j:Nat,j<=lk.length/\i= .int .i64 j/\wr.ownsRow wo.heap.size 9 1 o j ((lk.map (fun n=>Value.string (itoaB n))).take j)/\Below wo.heap.size wo wr)
    (fun _ i _=>lk.length-(intOf i).toNat)
   case atStart=>exact⟨0,aot _,rfl,World.ownsRow_nil _ _ _ _,aoi _ _⟩
   case round=>
    obtain⟨j,hj,rfl,hown,hbel⟩:=hrel;have hsz2:=hbel.size;by_cases hjl:j<lk.length
    ·have hn:=HW.out _ (getD_mem' hjl);have SJ:=hid (getD_take_snoc (fun n=>Value.string (itoaB n)) lk j 0 hjl);have hcx:=keep_cell hbel (HLC.out j hjl);generalize lk.getD j 0=n at *;have IT:=hid (itoa_any n om om wr (HVR.out.below (HB.out.trans (hbel.mono hsz))));have HO2:=hid hown;have HB2:=hid hbel;clear hown hbel;go_wp2_with fail
     refine IT.out.mono ?_;rintro e w1 ⟨rfl,hb1⟩;have hown1:=own_below HO2.out hb1;have hbel1:=HB2.out.trans (hb1.mono hsz2);have hsz1:=hbel1.size;have HO3:=hid hown1;have HB3:=hid hbel1;clear hb1 hown1 hbel1;go_wp2_with (at_builtin;refine wpList_append_own _ rfl _ _ 22 rfl wo.heap.size 9 i0 (.string ⟨#[]⟩) 1 16 underlying22 hi0 hz0 hz1 hz2 rfl ox _ _ _ rfl (HO3.out.alloc _) ⟨w1.heap.size,0,none⟩ 1 1 [.string (itoaB n)] rfl rfl ?c1 ?c2 ?c3 ?c4 ?c5 ?_)
     case c1=>exact(a0h _ _ _)
     case c2=>intro u hu;simp at hu;subst hu;rfl
     case c3=>unfold maxLen;omega
     case c4=>omega
     case c5=>simp;omega
     intro v' w2 hown' hgrow _;have R:=below_append HB3.out hsz1 HO3.out hgrow;clear hgrow;go_wp2;go_roundw
     case rel=>exact⟨j+1,om,by go_num,by rw[SJ.out];exact hown',R⟩
     case measure=>simp[intOf];omega
    have e:j=lk.length:=om;subst e
    have HO4:Hid (World.ownsRow wr wo.heap.size 9 1 _ (lk.map itoaB).length ((lk.map itoaB).map Value.string)):=hid (by
     have h:=hown;rw[aou oz]at h;rw[aoB,apx];exact h)
    have hJ:=join_own _ _ _ (lk.map itoaB) ⟨#[44]⟩ wr HO4.out (by intro e;rw[apD]at e;rw[e]at hl1;simp at hl1) (by rw[aoB];omega) (by
     have h:=hTL.out;unfold a1b at h;rw[apx];exact aor h om)
    have EJ:Lib.join ((lk.map itoaB).map (·.data.toList)) [44]=a1b lk:=by
     rw[apx];rfl
    have hO1:=own_below HO.out hbel;have hB1:=HB.out.trans (hbel.mono hsz);have HJ:=hid hJ;have HEJ:=hid EJ;have HO5:=hid hO1;have HB5:=hid hB1;clear hown hbel hJ EJ hO1 hB1 HO4 HO;go_wp2_with fail
    refine HJ.out.mono ?_;rintro e w1 ⟨rfl,hb1⟩;rw[HEJ.out];have HO6:=hid (own_below HO5.out hb1);have HB6:=hid (HB5.out.trans (hb1.mono HB5.out.size));have hsz1:=HB6.out.size;clear hb1;unfold a7l;generalize hs:ByteArray.mk (a1b lk).toArray=sv
    have HS:=hid hs;clear hs;go_wp2_with (at_builtin;refine wpList_append_own _ rfl _ _ 22 rfl w.heap.size 9 i0 (.string ⟨#[]⟩) 1 16 underlying22 hi0 hz0 hz1 hz2 rfl ox _ _ _ rfl (HO6.out.alloc _) ⟨w1.heap.size,0,none⟩ 1 1 [.string sv] rfl rfl ?d1 ?d2 ?d3 ?d4 ?d5 ?_)
    case d1=>exact(a0h _ _ _)
    case d2=>intro u hu;simp at hu;subst hu;rfl
    case d3=>unfold maxLen;omega
    case d4=>omega
    case d5=>simp;omega
    intro v' w2 hown' hgrow _;have R:=below_append HB6.out hsz1 HO6.out hgrow;clear hgrow;go_wp2;go_roundw
    case rel=>exact⟨k+1,om,by go_num,by rw[SN.out];unfold a7l;rw[HS.out];exact hown',R⟩
    case measure=>simp[intOf];omega
  have e:k=t.length:=om;subst e
  have HO4:Hid (World.ownsRow wo w.heap.size 9 1 _ (t.map fun l=>(ByteArray.mk (a1b l).toArray)).length ((t.map fun l=>(ByteArray.mk (a1b l).toArray)).map Value.string)):=hid (by
   have h:=hown;rw[aou oz]at h;rw[aoB,apx];exact h)
  have EJ:(t.map fun l=>(ByteArray.mk (a1b l).toArray)).map (·.data.toList)=t.map a1b:=by
   rw[apx];simp
  have HJ:=hid (join_own _ _ _ (t.map fun l=>(ByteArray.mk (a1b l).toArray)) ⟨#[59]⟩ wo HO4.out (by intro e;rw[apD]at e;rw[e]at hlo;simp at hlo) (by rw[aoB];omega) (by
   rw[EJ];exact aor (alr HT.out) om))
  have HEJ:=hid EJ;clear hown hbel EJ HO4 HO;go_wp2_with fail
  refine HJ.out.mono ?_;rintro e w1 ⟨rfl,hb1⟩;rw[HEJ.out];go_wp2;go_ret;exact⟨rfl,HB.out.trans (hb1.mono hsz)⟩
def a2I(sep:UInt8)(k:Nat):List UInt8:=if k=0 then []else [sep]
theorem a8u(sep:UInt8)(xs:List (List UInt8))(k:Nat)(h:k<xs.length):Lib.join (xs.take (k+1)) [sep]=Lib.join (xs.take k) [sep]++a2I sep k++xs.getD k []:=by
 rw[aon h,ajE,aoh,aoj h];by_cases hk:k=0
 ·subst hk;simp[a2I,Lib.join_nil]
 rw[if_neg (by
  intro e;have:=congrArg List.length e;simp only[aoy,aow]at this;omega),a2I,if_neg hk]
 simp
def bsB(l:List UInt8):ByteArray:=⟨l.toArray⟩
theorem a4I(a b:List UInt8):bsB a++bsB b=bsB (a++b):=by apply a5x;simp[bsB]
theorem bsB_size(a:List UInt8):(bsB a).size=a.length:=by simp[bsB,ByteArray.size]
theorem a8v{α β:Type}(f:α->β)(l:List α)(k:Nat)(d:α)(e:β)(h:k<l.length):(l.map f).getD k e=f (l.getD k d):=by
 rw[aoh,aoh,apr,aoj h];rfl
theorem ad6{l:List Int}(h:a43 l=true)(j:Nat):(Lib.join ((l.map Lib.itoa).take j) [44]).length<=144:=by
 obtain⟨h1,h2,h3⟩:=(a2p l).1 h
 have:=join_len [44] 11 ((l.map Lib.itoa).take j) (fun x hx=>by
  obtain⟨n,hn,rfl⟩:=ap1.1 (ap2 hx);have:=h3 n hn;exact itoa_len om om)
 simp only[aoy,aoB,aom,aow]at this;have h4:min j l.length<=12:=om;have h5:min j l.length * (11+(0+1))<=12 * 12:=Nat.mul_le_mul h4 om;omega
theorem abI{t:List (List Int)}(h:Vld t)(j:Nat):(Lib.join ((t.map a1b).take j) [59]).length<=580:=by
 have hh:=h.hi
 have:=join_len [59] 144 ((t.map a1b).take j) (fun x hx=>by
  obtain⟨l,hl,rfl⟩:=ap1.1 (ap2 hx);exact a9I ((a2p l).2 (h.wave l hl)))
 simp only[aoy,aoB,aom,aow]at this;have h5:min j t.length * (144+(0+1))<=4 * 145:=Nat.mul_le_mul om om;omega
theorem rtext_any(v:Value)(t:List (List Int))(w:World)(hv:RowsAt w v t)(ht:Vld t):
  Calls prog 177 #[v] w fun e w'=>e= .returned (a7l (a27 t))/\Below w.heap.size w w':=by
 have hlo:=ht.lo;have hhi:=ht.hi;have HT:=hid ht;obtain⟨a,cap,rfl,hl,hq⟩:=id hv;obtain⟨b,off,rfl,hc⟩:=hq om;clear hq hv ht;go_enter func177,ntmps177;go_wp2
 go_loopw [3,10] (fun o i wr=>∃k:Nat,k<=t.length/\i= .int .i64 k/\o= .string (bsB (Lib.join ((t.map a1b).take k) [59]))/\Below w.heap.size w wr)
  (fun _ i _=>t.length-(intOf i).toNat)
 case atStart=>exact⟨0,aot _,rfl,rfl,aoi _ _⟩
 case round=>
  obtain⟨k,hk,rfl,rfl,hbel⟩:=hrel;obtain⟨wo,rfl⟩:∃wo:World,wo=wr:=⟨_,rfl⟩
  have hsz:=hbel.size;by_cases hlt:k<t.length
  ·obtain⟨x,hx0,hi⟩:=hc k hlt;have hmem:=a3y hlt;have SN:=hid (a8u 59 (t.map a1b) k (by simpa using hlt));have SG:=hid (a8v a1b t k [] [] hlt);have hwv:=(a2p _).2 (HT.out.wave _ hmem)
   have hw3:=HT.out.wave _ hmem;have hTL:=hid (ad6 hwv);have hPL:=abI HT.out k;generalize hlk:t.getD k []=lk at *;clear hlk;generalize Lib.join ((t.map a1b).take k) [59]=pre at *;have hl1:=hw3.1;have hl2:=hw3.2.1;have HW:=hid hw3.2.2;have hx:=keep_cell hbel hx0;obtain⟨lb,lo,lc,rfl,hlc⟩:=ints_cell hi om;have HLC0:=hid hlc;have HB:=hid hbel;have z1:(bsB pre).size+1<=9223372036854775807:=by rw[bsB_size];omega
   have z2:(bsB pre).size+(ByteArray.mk #[59]).size<=9223372036854775807:=z1
   clear hx0 hi hlc hw3 hwv hmem;by_cases hk0:k=0
   ·have KP:Hid (bsB pre=bsB (pre++a2I 59 k)):=hid (by rw[a2I,if_pos hk0,apj]);have hPS:(pre++a2I 59 k).length<=581:=by rw[a2I,if_pos hk0,apj];omega
    generalize hpp:pre++a2I 59 k=pp at *;clear hpp;have hk1:¬0<k:=om;clear hk0 hPL z1 z2;go_wp2;rw[KP.out]
    go_loopw [3,21] (fun o i wr=>∃j:Nat,j<=lk.length/\i= .int .i64 j/\o= .string (bsB (pp++Lib.join ((lk.map Lib.itoa).take j) [44]))/\Below w.heap.size w wr)
     (fun _ i _=>lk.length-(intOf i).toNat)
    case atStart=>exact⟨0,aot _,rfl,by rw[List.take_zero,Lib.join_nil,apj],HB.out⟩
    case round=>
     obtain⟨j,hj,rfl,rfl,hbel⟩:=hrel;have hsz2:=hbel.size;have HB2:=hid hbel;by_cases hjl:j<lk.length
     ·have hn:=HW.out _ (getD_mem' hjl);have SJ:=hid (a8u 44 (lk.map Lib.itoa) j (by simpa using hjl));have SGJ:=hid (a8v Lib.itoa lk j 0 [] hjl);have hcx:=keep_cell hbel (HLC0.out j hjl);have hTj:=hTL.out j;generalize lk.getD j 0=n at *;generalize Lib.join ((lk.map Lib.itoa).take j) [44]=pj at *;have D:Hid (Calls prog 222 #[.int .i64 n] wr fun e w'=>e= .returned (.string (bsB (Lib.itoa n)))/\Below wr.heap.size wr w'):=hid (a9e n wr om om);have hz:=itoa_len (n:=n) om om;have y1:(bsB (pp++pj)).size+1<=9223372036854775807:=by rw[bsB_size,aol];omega
      have y2:(bsB (pp++pj)).size+(ByteArray.mk #[44]).size<=9223372036854775807:=y1
      have y3:(bsB (pp++pj)).size+(bsB (Lib.itoa n)).size<=9223372036854775807:=by rw[bsB_size,bsB_size,aol];omega
      have y4:(bsB (pp++(pj++[44]))).size+(bsB (Lib.itoa n)).size<=9223372036854775807:=by rw[bsB_size,bsB_size,aol,aol];simp;omega
      clear hz hbel hTj;by_cases hj0:j=0
      ·have hj1:¬(j:Int)>0:=om;have SJ0:Hid (a2I 44 j=[]):=hid (by rw[a2I,if_pos hj0]);clear hj0 y1 y2 y4;go_wp2_with fail
       skip
       refine D.out.mono ?_;rintro e w1 ⟨rfl,hb1⟩;have HB3:=hid (HB2.out.trans (hb1.mono hsz2));clear hb1;go_wp2;rw[a4I];go_roundw
       case rel=>exact⟨j+1,om,by go_num,by rw[SJ.out,SGJ.out];(rw[SJ0.out,apj,aoT]),HB3.out⟩
       case measure=>simp[intOf];omega
      have hj1:(j:Int)>0:=om;have SJ0:Hid (a2I 44 j=[44]):=hid (by rw[a2I,if_neg hj0]);clear hj0 y3;go_wp2_with fail
      rw[show bsB (pp++pj)++⟨#[44]⟩=bsB (pp++(pj++[44]))from(a4I _ _).trans (by rw[aoT])];refine D.out.mono ?_;rintro e w1 ⟨rfl,hb1⟩;have HB3:=hid (HB2.out.trans (hb1.mono hsz2));clear hb1;go_wp2;rw[a4I];go_roundw
      case rel=>exact⟨j+1,om,by go_num,by rw[SJ.out,SGJ.out];(rw[SJ0.out];simp[aoT]),HB3.out⟩
      case measure=>simp[intOf];omega
     have e:j=lk.length:=om;subst e;go_wp2;go_roundw
     case rel=>exact⟨k+1,om,by go_num,by rw[SN.out,SG.out,aou oz];rfl,HB2.out⟩
     case measure=>simp[intOf];omega
   have KP:Hid (bsB pre++⟨#[59]⟩=bsB (pre++a2I 59 k)):=hid (by rw[a2I,if_neg hk0];exact a4I _ _);have hPS:(pre++a2I 59 k).length<=581:=by rw[a2I,if_neg hk0,aol];simp;omega
   generalize hpp:pre++a2I 59 k=pp at *;clear hpp;have hk1:0<k:=om;clear hk0 hPL;go_wp2;rw[KP.out]
   go_loopw [3,21] (fun o i wr=>∃j:Nat,j<=lk.length/\i= .int .i64 j/\o= .string (bsB (pp++Lib.join ((lk.map Lib.itoa).take j) [44]))/\Below w.heap.size w wr)
    (fun _ i _=>lk.length-(intOf i).toNat)
   case atStart=>exact⟨0,aot _,rfl,by rw[List.take_zero,Lib.join_nil,apj],HB.out⟩
   case round=>
    obtain⟨j,hj,rfl,rfl,hbel⟩:=hrel;have hsz2:=hbel.size;have HB2:=hid hbel;by_cases hjl:j<lk.length
    ·have hn:=HW.out _ (getD_mem' hjl);have SJ:=hid (a8u 44 (lk.map Lib.itoa) j (by simpa using hjl));have SGJ:=hid (a8v Lib.itoa lk j 0 [] hjl);have hcx:=keep_cell hbel (HLC0.out j hjl);have hTj:=hTL.out j;generalize lk.getD j 0=n at *;generalize Lib.join ((lk.map Lib.itoa).take j) [44]=pj at *;have D:Hid (Calls prog 222 #[.int .i64 n] wr fun e w'=>e= .returned (.string (bsB (Lib.itoa n)))/\Below wr.heap.size wr w'):=hid (a9e n wr om om);have hz:=itoa_len (n:=n) om om;have y1:(bsB (pp++pj)).size+1<=9223372036854775807:=by rw[bsB_size,aol];omega
     have y2:(bsB (pp++pj)).size+(ByteArray.mk #[44]).size<=9223372036854775807:=y1
     have y3:(bsB (pp++pj)).size+(bsB (Lib.itoa n)).size<=9223372036854775807:=by rw[bsB_size,bsB_size,aol];omega
     have y4:(bsB (pp++(pj++[44]))).size+(bsB (Lib.itoa n)).size<=9223372036854775807:=by rw[bsB_size,bsB_size,aol,aol];simp;omega
     clear hz hbel hTj;by_cases hj0:j=0
     ·have hj1:¬(j:Int)>0:=om;have SJ0:Hid (a2I 44 j=[]):=hid (by rw[a2I,if_pos hj0]);clear hj0 y1 y2 y4;go_wp2_with fail
      skip
      refine D.out.mono ?_;rintro e w1 ⟨rfl,hb1⟩;have HB3:=hid (HB2.out.trans (hb1.mono hsz2));clear hb1;go_wp2;rw[a4I];go_roundw
      case rel=>exact⟨j+1,om,by go_num,by rw[SJ.out,SGJ.out];(rw[SJ0.out,apj,aoT]),HB3.out⟩
      case measure=>simp[intOf];omega
     have hj1:(j:Int)>0:=om;have SJ0:Hid (a2I 44 j=[44]):=hid (by rw[a2I,if_neg hj0]);clear hj0 y3;go_wp2_with fail
     rw[show bsB (pp++pj)++⟨#[44]⟩=bsB (pp++(pj++[44]))from(a4I _ _).trans (by rw[aoT])];refine D.out.mono ?_;rintro e w1 ⟨rfl,hb1⟩;have HB3:=hid (HB2.out.trans (hb1.mono hsz2));clear hb1;go_wp2;rw[a4I];go_roundw
     case rel=>exact⟨j+1,om,by go_num,by rw[SJ.out,SGJ.out];(rw[SJ0.out];simp[aoT]),HB3.out⟩
     case measure=>simp[intOf];omega
    have e:j=lk.length:=om;subst e;go_wp2;go_roundw
    case rel=>exact⟨k+1,om,by go_num,by rw[SN.out,SG.out,aou oz];rfl,HB2.out⟩
    case measure=>simp[intOf];omega
  have e:k=t.length:=om;subst e;go_wp2;go_ret;exact⟨ret_s (by rw[aou oz];rfl),hbel⟩
end Go.Proofs.YtdfkaijeppdhaaaGreatDoor.Td
