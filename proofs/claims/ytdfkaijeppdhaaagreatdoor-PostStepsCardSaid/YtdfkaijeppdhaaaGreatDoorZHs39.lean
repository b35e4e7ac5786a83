/- Part of the proof. -/
import Derived.Test.YtdfkaijeppdhaaaGreatDoorZHs37
import Derived.Test.YtdfkaijeppdhaaaGreatDoorZHs38
set_option maxRecDepth 100000
set_option maxHeartbeats 8000000
set_option linter.unusedSimpArgs false
set_option linter.unusedVariables false

namespace Go.Proofs.YtdfkaijeppdhaaaGreatDoor
open Lib (hid)
open Proofs.Tryz Go.RowKit Go.Shelf
theorem aka(s t:ByteArray)(hs:s.size<=1000000)(ht:t.size<=1000000)(w:World):
  Calls prog 106 #[.string s,.string t,.agg #[.int .i64 1,.int .i64 1]] w (a4K s t w):=by
 have hb1:Below w.heap.size w (w.alloc (.cells #[.int .i64 1,.int .i64 1] 176)):=(aoi _ _).alloc (aof _) _
 have HA:=hid (rasked_any s t hs ht (w.alloc (.cells #[.int .i64 1,.int .i64 1] 176)));have HB1:=hid hb1;have hn1:Hid ((w.alloc (.cells #[.int .i64 1,.int .i64 1] 176)).heap[w.heap.size]? =some (.cells #[.int .i64 1,.int .i64 1] 176 (0,0))):=hid (World.alloc_heap_new w _);clear hb1;unfold a4K a7y a6w;unfold a6w at HA;cases hp:a4q s t with
 |false=>
  rw[hp]at HA;simp only[Bool.false_eq_true,if_false]at HA⊢;clear hp;go_enter func106,ntmps106;go_wp2_with fail
  refine HA.out.mono ?_;rintro e w2 ⟨rfl,hb2⟩;have HB2:=hid (below_trans HB1.out hb2);clear hb2;go_wp2;go_ret2;exact⟨rfl,HB2.out⟩
 |true=>
  rw[hp]at HA;simp only[if_true]at HA⊢;unfold a4q at hp;rw[Bool.and_eq_true]at hp;have HS:=hid (And.intro (a3i hp.1) (a3i hp.2));have HD:=hid (show cst s.data.toList t.data.toList 0 0=a2Q s.data.toList t.data.toList from rfl);generalize a2Q s.data.toList t.data.toList=d at *;clear hp;go_enter func106,ntmps106;go_wp2_with fail
  refine HA.out.mono ?_;rintro e w2 ⟨rfl,hb2⟩;have HB2:=hid (below_trans HB1.out hb2);have hh:=(hb2.block _ (aog.1 hn1.out).1).trans hn1.out
  have p0:=heap_cell (j:=0) hh rfl;have p1:=heap_cell (j:=1) hh rfl;clear hb2 hh;go_wp2_with fail
  refine(alU s t HS.out.1 HS.out.2 _).mono ?_
  rintro e w3 ⟨O1,O2,G1,rfl,htab,hb3⟩;have HB3:=hid (below_trans HB2.out hb3);have q0:=htab.look (i:=0) (aof _) (aot _);obtain⟨v,q1,hv⟩:=htab.entry (i:=0) (k:=0) (e:=0) (aof _) (aot _) (aot _) om (.inr (aof _));unfold okC at hv;subst hv;rw[HD.out]at q1;simp only[Nat.zero_mul,apM]at q1;have z1:(0:Int)<(s.size:Int)+1:=om;have z2:(0:Int)<(t.size:Int)+1:=om;clear hb3 htab p0 p1;go_wp2;go_ret2;exact⟨rfl,HB3.out⟩
def a6L(S B:Nat)(l:List Rw)(n:ByteArray)(w:World)(e:Ending)(w':World):Prop:=e= .returned (.tuple #[.string (a0j l n),.int .i64 (if a0j l n=emp then 5 else 0)])/\SaysAt w' S B (a0G l n)/\TS S B w w'
theorem a7z(S B:Nat)(l:List Rw)(n:ByteArray)(w:World)(h:SaysAt w S B l)(hl:l.length<=1000):Calls prog 73 #[.pointer (some ⟨S,0,none⟩),.string n] w (a6L S B l n w):=by
 have HA:=hid (a4F S B l n w h hl);have hS:=h.lt;unfold a6L;have HTM:=hid (a4D l n n);clear h;generalize a0j l n=x at *;by_cases hx:x=emp
 ·subst hx;have he:=aaI;simp only[if_true];unfold emp at HTM he⊢;go_enter func73,ntmps73;go_wp2_with fail
  refine HA.out.mono ?_;rintro e w2 ⟨g2,c2,g3,c3,len,u,rfl,hn,ht⟩;have q0:=hn.says.cell.2.1;have q1:=hn.text;rw[HTM.out]at q1;have hlt:(a0g n l:Int)<(len:Int):=by have:=hn.lt;omega
  have hz:(0:Int)<=(a0g n l:Int):=om;have HSA:Hid (SaysAt w2 S B (a0G l n)):=hid ⟨_,_,_,hn.says⟩;have HTS:=hid ht;clear hn ht;generalize a0g n l=i at *;go_wp2;go_ret2;exact⟨rfl,HSA.out,HTS.out⟩
 have he:(x.toList==([]:List UInt8))=false:=a0W (l:=[]) hx;rw[if_neg hx];clear hx;go_enter func73,ntmps73;go_wp2_with fail
 refine HA.out.mono ?_;rintro e w2 ⟨g2,c2,g3,c3,len,u,rfl,hn,ht⟩;have q0:=hn.says.cell.2.1;have q1:=hn.text;rw[HTM.out]at q1;have hlt:(a0g n l:Int)<(len:Int):=by have:=hn.lt;omega
 have hz:(0:Int)<=(a0g n l:Int):=om;have HSA:Hid (SaysAt w2 S B (a0G l n)):=hid ⟨_,_,_,hn.says⟩;have HTS:=hid ht;clear hn ht;generalize a0g n l=i at *;go_wp2;go_ret2;exact⟨rfl,HSA.out,HTS.out⟩
def a6g(n:Int)(e:Int):ByteArray×Int:=if e=0 then (itoaB n,0)else (emp,e)
theorem a8K(n e:Int)(h0: -1000000000<=n)(h1:n<=1000000000)(w:World):Calls prog 104 #[.int .i64 n,.int .i64 e] w (a0J (a6g n e) w):=by
 have HD:=hid (a2m n w h0 h1);unfold a6g;by_cases he:e=0
 ·subst he;rw[if_pos rfl];go_enter func104,ntmps104;go_wp2_with fail
  refine HD.out.mono ?_;rintro e w2 ⟨rfl,hb⟩;have HB:=hid hb;clear hb;go_wp2;go_ret2;exact⟨rfl,HB.out⟩
 have hz:(e != 0)=true:=by simpa using he
 rw[if_neg he];unfold emp;clear he;go_enter func104,ntmps104;go_wp2;go_ret2;exact⟨rfl,aoi _ _⟩
def a3m(x:ByteArray):Int:=if x=emp then 5 else match Td.parP x with
 |none=>3
 |some _=>0
def a9V(S B:Nat)(x:ByteArray)(w:World)(e:Ending)(w':World):Prop:=∃v,e= .returned (.tuple #[v,.int .i64 (a3m x)])/\(∀t,x≠emp->Td.parP x=some t->Td.RowsAt w' v t)/\TS S B w w'
theorem acP(S B:Nat)(l:List Rw)(n:ByteArray)(hsz:(a0j l n).size<=1000)(w:World)(h:SaysAt w S B l)(hl:l.length<=1000):Calls prog 103 #[.pointer (some ⟨S,0,none⟩),.string n] w (a9V S B (a0j l n) w):=by
 have HX:=hid (a7z S B l n w h hl);unfold a6L at HX;generalize a0j l n=x at *;clear h;by_cases hx:x=emp
 ·subst hx;have HT:Hid (a3m emp=5):=hid (if_pos rfl);simp only[if_true]at HX;go_enter func103,ntmps103;go_wp2_with fail
  refine HX.out.mono ?_;rintro e w2 ⟨rfl,_,ht⟩;have HTS:=hid ht;clear ht;go_wp2;go_ret2;exact⟨_,(by rw[HT.out];rfl),fun t h=>absurd rfl h,HTS.out⟩
 rw[if_neg hx]at HX;have HXE:=hid hx;clear hx;go_enter func103,ntmps103;go_wp2_with fail
 refine HX.out.mono ?_;rintro e w2 ⟨rfl,_,ht⟩;have HTS:=hid ht;have HP:=hid (Td.rParse_any x w2 hsz);rw[<-Td.par_same x]at HP;clear ht;go_wp2_with fail
 refine HP.out.mono ?_;rintro e w3 ⟨ov,rfl,hr,hb⟩;have HR:Hid (∀t,x≠emp->Td.parP x=some t->Td.RowsAt w3 ov t):=hid (fun t _ h2=>by rw[h2]at hr;exact hr);have HT2:=hid (HTS.out.trans (TS.of_below hb))
 have HTE:Hid (a3m x=Td.parE (Td.parP x)):=hid (by
  unfold a3m;rw[if_neg HXE.out];cases Td.parP x<;>rfl)
 clear hr hb;generalize Td.parE (Td.parP x)=pe at *;go_wp2;go_ret2;exact⟨_,(by rw[HTE.out];rfl),HR.out,HT2.out⟩
theorem a8L(ans:List ByteArray->ByteArray×Int)(n:ByteArray)(l:List Rw):a0B ans [n] (knR l)=if a0j l n=emp then (emp,5)else if (ans [a0j l n]).2=0 then ((ans [a0j l n]).1,0)else (emp,(ans [a0j l n]).2):=by
 unfold a0B;by_cases h:a0j l n=emp
 ·rw[if_pos h];simp[allS,knR,h,a4C]
 rw[if_neg h];simp[allS,knR,a3v h]
theorem akb(ans:List ByteArray->ByteArray×Int)(n m:ByteArray)(l:List Rw):a0B ans [n,m] (knR l)=if a0j l n=emp then (emp,5)else if a0j l m=emp then (emp,5)else if (ans [a0j l n,a0j l m]).2=0 then ((ans [a0j l n,a0j l m]).1,0)else (emp,(ans [a0j l n,a0j l m]).2):=by
 unfold a0B;by_cases h:a0j l n=emp
 ·rw[if_pos h];simp[allS,knR,h,a4C]
 rw[if_neg h];by_cases h2:a0j l m=emp
 ·rw[if_pos h2];simp[allS,knR,a3v h,h2,a4C]
 rw[if_neg h2];simp[allS,knR,a3v h,a3v h2]
theorem rbeat_any(S B:Nat)(l:List Rw)(n:ByteArray)(hsz:(a0j l n).size<=1000)(w:World)(h:SaysAt w S B l)(hl:l.length<=1000):Calls prog 75 #[.pointer (some ⟨S,0,none⟩),.string n] w (a9T S B (a0B a1L [n] (knR l)) w):=by
 have HT:=hid (acP S B l n hsz w h hl);rw[a8L];unfold a9V at HT;unfold a9T;generalize a0j l n=x at *;clear h hsz;by_cases hx:x=emp
 ·rw[if_pos hx];have HE:Hid (a3m x=5):=hid (if_pos hx);rw[HE.out]at HT;unfold emp;clear hx;go_enter func75,ntmps75;go_wp2_with fail
  refine HT.out.mono ?_;rintro e w2 ⟨v,rfl,_,ht⟩;have HTS:=hid ht;clear ht;go_wp2;go_ret2;exact⟨rfl,HTS.out⟩
 rw[if_neg hx];have HXE:=hid hx;cases hp:Td.parP x with
 | none=>
  have HE:Hid (a3m x=3):=hid (by unfold a3m;rw[if_neg hx,hp])
  have HA:Hid (a1L [x]=(emp,3)):=hid (by
   simp only[a1L,aoV];rw[hp])
  rw[HE.out]at HT;rw[HA.out];simp only[show¬((3:Int)=0) by decide,if_false];unfold emp;clear hx hp;go_enter func75,ntmps75;go_wp2_with fail
  refine HT.out.mono ?_;rintro e w2 ⟨v,rfl,_,ht⟩;have HTS:=hid ht;clear ht;go_wp2;go_ret2;exact⟨rfl,HTS.out⟩
 | some t=>
  have HE:Hid (a3m x=0):=hid (by unfold a3m;rw[if_neg hx,hp])
  have HA:Hid ((if (a1L [x]).2=0 then ((a1L [x]).1,0)else (emp,(a1L [x]).2))=a6g (Td.qi t true (Td.bt (Td.spd t) (Td.rnd t):Nat)) (Td.qe t true)):=hid (by
   have:a1L [x]=(itoaB (Td.qi t true (Td.bt (Td.spd t) (Td.rnd t):Nat)),Td.qe t true):=by
    simp only[a1L,aoV];rw[hp]
   rw[this];rfl)
  rw[HE.out]at HT;rw[HA.out];clear HA;have HP:=hid hp;have HBD:=hid (ag3 t);have HB0:=hid (fun W v (h:Td.RowsAt W v t)=>Td.rBeat_any v t W h);clear hx hp;generalize Td.qi t true (Td.bt (Td.spd t) (Td.rnd t):Nat)=q at *;generalize Td.qe t true=qe at *;obtain⟨r,hr⟩:∃r,r=a6g q qe:=⟨_,rfl⟩
  have HN0:=hid (fun W=>a8K q qe HBD.out.1 HBD.out.2 W);rw[<-hr];rw[<-hr]at HN0;clear hr;obtain⟨ra,re⟩:=r;simp only;go_enter func75,ntmps75;go_wp2_with fail
  refine HT.out.mono ?_;rintro e w2 ⟨v,rfl,hr,ht⟩;have HTS:=hid ht;have HB:=hid (HB0.out _ v (hr t HXE.out HP.out));clear ht hr;go_wp2_with fail
  refine HB.out.mono ?_;rintro e w3 ⟨rfl,hb3⟩;have HT3:=hid (HTS.out.trans (TS.of_below hb3));have HN:=hid (HN0.out w3);clear hb3;go_wp2_with fail
  refine HN.out.mono ?_;rintro e w4 ⟨rfl,hb4⟩;have HT4:=hid (HT3.out.trans (TS.of_below hb4));clear hb4;go_wp2;go_ret2;exact⟨rfl,HT4.out⟩
theorem rdrift_any(S B:Nat)(l:List Rw)(n:ByteArray)(na nb:Int)(hsz:(a0j l n).size<=1000)(w:World)(h:SaysAt w S B l)(hl:l.length<=1000):Calls prog 78 #[.pointer (some ⟨S,0,none⟩),.string n,.int .i64 na,.int .i64 nb] w (a9T S B (a0B (a1u [na,nb]) [n] (knR l)) w):=by
 have HT:=hid (acP S B l n hsz w h hl);rw[a8L];unfold a9V at HT;unfold a9T;generalize a0j l n=x at *;clear h hsz;by_cases hx:x=emp
 ·rw[if_pos hx];have HE:Hid (a3m x=5):=hid (if_pos hx);rw[HE.out]at HT;unfold emp;clear hx;go_enter func78,ntmps78;go_wp2_with fail
  refine HT.out.mono ?_;rintro e w2 ⟨v,rfl,_,ht⟩;have HTS:=hid ht;clear ht;go_wp2;go_ret2;exact⟨rfl,HTS.out⟩
 rw[if_neg hx];have HXE:=hid hx;cases hp:Td.parP x with
 | none=>
  have HE:Hid (a3m x=3):=hid (by unfold a3m;rw[if_neg hx,hp])
  have HA:Hid (a1u [na,nb] [x]=(emp,3)):=hid (by
   simp only[a1u,aoV];rw[hp])
  rw[HE.out]at HT;rw[HA.out];simp only[show¬((3:Int)=0) by decide,if_false];unfold emp;clear hx hp;go_enter func78,ntmps78;go_wp2_with fail
  refine HT.out.mono ?_;rintro e w2 ⟨v,rfl,_,ht⟩;have HTS:=hid ht;clear ht;go_wp2;go_ret2;exact⟨rfl,HTS.out⟩
 | some t=>
  have HE:Hid (a3m x=0):=hid (by unfold a3m;rw[if_neg hx,hp])
  have HA:Hid ((if (a1u [na,nb] [x]).2=0 then ((a1u [na,nb] [x]).1,0)else (emp,(a1u [na,nb] [x]).2))=a6g (Td.qi t (Td.hourB na&&Td.spanB nb) (Td.acc (Td.spd t) na nb.toNat)) (Td.qe t (Td.hourB na&&Td.spanB nb))):=hid (by
   have:a1u [na,nb] [x]=(itoaB (Td.qi t (Td.hourB na&&Td.spanB nb) (Td.acc (Td.spd t) na nb.toNat)),Td.qe t (Td.hourB na&&Td.spanB nb)):=by
    simp only[a1u,aoV];rw[hp];rfl
   rw[this];rfl)
  rw[HE.out]at HT;rw[HA.out];clear HA;have HP:=hid hp;have HBD:=hid (aed t na nb);have HB0:=hid (fun W v (h:Td.RowsAt W v t)=>Td.rDrift_any v t na nb W h);clear hx hp;generalize Td.qi t (Td.hourB na&&Td.spanB nb) (Td.acc (Td.spd t) na nb.toNat)=q at *;generalize Td.qe t (Td.hourB na&&Td.spanB nb)=qe at *;obtain⟨r,hr⟩:∃r,r=a6g q qe:=⟨_,rfl⟩
  have HN0:=hid (fun W=>a8K q qe HBD.out.1 HBD.out.2 W);rw[<-hr];rw[<-hr]at HN0;clear hr;obtain⟨ra,re⟩:=r;simp only;go_enter func78,ntmps78;go_wp2_with fail
  refine HT.out.mono ?_;rintro e w2 ⟨v,rfl,hr,ht⟩;have HTS:=hid ht;have HB:=hid (HB0.out _ v (hr t HXE.out HP.out));clear ht hr;go_wp2_with fail
  refine HB.out.mono ?_;rintro e w3 ⟨rfl,hb3⟩;have HT3:=hid (HTS.out.trans (TS.of_below hb3));have HN:=hid (HN0.out w3);clear hb3;go_wp2_with fail
  refine HN.out.mono ?_;rintro e w4 ⟨rfl,hb4⟩;have HT4:=hid (HT3.out.trans (TS.of_below hb4));clear hb4;go_wp2;go_ret2;exact⟨rfl,HT4.out⟩
theorem alY(S B:Nat)(l:List Rw)(n m:ByteArray)(hsz:(a0j l n).size<=1000)(hsm:(a0j l m).size<=1000)(w:World)(h:SaysAt w S B l)(hl:l.length<=900):Calls prog 76 #[.pointer (some ⟨S,0,none⟩),.string n,.string m] w (a9T S B (a0B a3D [n,m] (knR l)) w):=by
 have HX:=hid (a7z S B l n w h om);have HY:=hid (fun W (hW:SaysAt W S B (a0G l n))=>a7z S B (a0G l n) m W hW (by have:=a4B l n;omega));unfold a6L at HX HY;have HTM:=hid (a4D l n m);rw[HTM.out]at HY;rw[akb];unfold a9T;generalize a0j l n=x at *;generalize a0j l m=y at *;clear h HTM;by_cases hx:x=emp
 ·subst hx;simp only[if_true]at HX⊢;unfold emp at HX⊢;go_enter func76,ntmps76;go_wp2_with fail
  refine HX.out.mono ?_;rintro e w2 ⟨rfl,_,ht⟩;have HTS:=hid ht;clear ht;go_wp2;go_ret2;exact⟨rfl,HTS.out⟩
 rw[if_neg hx]at HX;rw[if_neg hx];by_cases hy:y=emp
 ·subst hy;simp only[if_true]at HY⊢;unfold emp at HY⊢;clear hx;go_enter func76,ntmps76;go_wp2_with fail
  refine HX.out.mono ?_;rintro e w2 ⟨rfl,hs,ht⟩;have HTS:=hid ht;have HY2:=hid (HY.out w2 hs);clear ht hs;go_wp2_with fail
  refine HY2.out.mono ?_;rintro e w3 ⟨rfl,_,ht⟩;have HTS2:=hid (HTS.out.trans ht);clear ht;go_wp2;go_ret2;exact⟨rfl,HTS2.out⟩
 rw[if_neg hy]at HY;rw[if_neg hy];have HD:=hid (fun W=>aka x y om om W);unfold a4K at HD;have HA:Hid ((if (a3D [x,y]).2=0 then ((a3D [x,y]).1,0)else (emp,(a3D [x,y]).2))=a6g (a7y x y:Nat) (a6w x y)):=hid rfl;rw[HA.out];have HF:=hid (agh x y);clear HA;generalize a7y x y=d at *;generalize a6w x y=er at *;have HN0:=hid (fun W=>a8K (d:Int) er om (by have:=HF.out;omega) W);obtain⟨r,hr⟩:∃r,r=a6g (d:Int) er:=⟨_,rfl⟩
 rw[<-hr];rw[<-hr]at HN0;obtain⟨ra,re⟩:=r;simp only;clear hx hy hr;go_enter func76,ntmps76;go_wp2_with fail
 refine HX.out.mono ?_;rintro e w2 ⟨rfl,hs,ht⟩;have HTS:=hid ht;have HY2:=hid (HY.out w2 hs);clear ht hs;go_wp2_with fail
 refine HY2.out.mono ?_;rintro e w3 ⟨rfl,_,ht⟩;have HTS2:=hid (HTS.out.trans ht);clear ht;go_wp2_with fail
 refine(HD.out _).mono ?_
 rintro e w4 ⟨rfl,hb⟩;have HTS3:=hid (HTS2.out.trans (TS.of_below hb));have HN:=hid (HN0.out w4);clear hb;go_wp2_with fail
 refine HN.out.mono ?_;rintro e w5 ⟨rfl,hb5⟩;have HT5:=hid (HTS3.out.trans (TS.of_below hb5));clear hb5;go_wp2;go_ret2;exact⟨rfl,HT5.out⟩
theorem a9W:∀l:List UInt8,((a09 l).2.2=true->l.count 32=(a09 l).2.1.count 32+1/\(a09 l).2.1.length<l.length)/\((a09 l).2.2=false->l.count 32=0)
 |[]=>⟨fun h=>(by cases h),fun _=>rfl⟩
 |b::r=>by
  obtain⟨h1,h2⟩:=a9W r;unfold a09;by_cases hb:b=32
  ·subst hb;refine⟨fun _=>?_,fun h=>by simp at h⟩;simp
  have hb2:(b==32)=false:=by simpa using hb
  rw[hb2];simp only[Bool.false_eq_true,if_false];rw[List.count_cons_of_ne hb];exact⟨fun h=>⟨(h1 h).1,by have:=(h1 h).2;simp only[aom];omega⟩,h2⟩
theorem ahP(l:List UInt8):splitA 32 (bsB l)=if (a09 l).2.2=true then bsB (a09 l).1::splitA 32 (bsB (a09 l).2.1)else [bsB (a09 l).1]:=by
 obtain⟨h1,h2⟩:=a9W l;unfold splitA a1C;rw[a1t,a1t];cases hq:(a09 l).2.2 with
 |true=>
  rw[(h1 hq).1,a5j,hq];simp
 |false=>
  have:=a5j l 0;rw[h2 hq,a1p];rw[hq]at this;have hc:=abD l (fun hm=>by have:=List.count_pos_iff.2 hm;have:=h2 hq;omega);rw[hc];simp
def acQ(S:List ByteArray)(w:World)(e:Ending)(w':World):Prop:=
 (S.any (fun x=>decide (x=emp))=true->e= .returned (.tuple #[.slice none 0 0,.bool false]))/\
 (S.any (fun x=>decide (x=emp))=false->∃v,e= .returned (.tuple #[v,.bool true])/\w'.ownsRow w.heap.size 9 1 v S.length (S.map Value.string))/\Below w.heap.size w w'
def ao1(x q:Value):Nat:=match q with
 | .bool true=>(match x with
  | .string s=>s.size+1
  |_=>0)
 |_=>0
theorem ahQ(s:ByteArray)(hs:s.size<=1000000)(w:World):Calls prog 70 #[.string s] w (acQ (splitA 32 s) w):=by
 obtain⟨s0,hs0,hy0,hy1,hy2⟩:=info_parts Tryz.infoStr;obtain⟨S,hS⟩:∃S,S=splitA 32 s:=⟨_,rfl⟩
 rw[<-hS];have HS0:Hid (S=[]++if true=true then splitA 32 (bsB s.data.toList)else []):=hid (by rw[a3O,hS];rfl);have HL0:Hid (s.data.toList.length<=1000000):=hid (by rw[<-a05];exact hs);have HSB:Hid (Value.string s= .string (bsB s.data.toList)):=hid (by rw[a3O]);clear hS hs;go_enter func70,ntmps70;go_wp2;go_loopw [0,4,5] (fun x o q wr=>∃(l:List UInt8) (ws:List ByteArray) (m:Bool),x= .string (bsB l)/\q= .bool m/\Hid (l.length<=1000000)/\Hid (S=ws++if m=true then splitA 32 (bsB l)else [])/\Hid (∀y∈ws,y≠emp)/\Hid (ws.length+(if m=true then l.length+1 else 0)<=1000001)/\wr.ownsRow w.heap.size 9 1 o ws.length (ws.map Value.string)/\Below w.heap.size w wr) (fun x _ q _=>ao1 x q)
 case atStart=>exact⟨s.data.toList,[],true,HSB.out,rfl,HL0,HS0,hid (fun _ h=>(by cases h)),hid (by have:=HL0.out;simp only[if_true,aow];omega),World.ownsRow_nil _ _ _ _,aoi _ _⟩
 case round=>
  obtain⟨l,ws,m,rfl,rfl,HL,HS,HW,HC,hown,hbel⟩:=hrel;have hsz1:=hbel.size;have HB:=hid hbel;have HO:=hid hown;clear hbel hown;cases m with
  | true=>
   have hwl:ws.length<=1000000:=by have:=HC.out;simp only[if_true]at this;omega
   have HCUT:=hid (a57 l wr (by have:=HL.out;omega));have HSC:=hid (ahP l);have HCF:=hid (a9W l);have HCN:=hid (a40 l);unfold abE at HCUT;generalize a09 l=c at *;obtain⟨ca,cr,cq⟩:=c;simp only at HCUT HSC HCF HCN;go_wp2_with fail
   refine HCUT.out.mono ?_;rintro e w2 ⟨rfl,hb2⟩;have HB2:=hid (below_trans HB.out hb2);have HO2:=hid (own_below HO.out hb2);have hsz2:w.heap.size<=w2.heap.size:=HB2.out.size;clear hb2;by_cases hca:bsB ca=emp
   ·have he:((bsB ca).toList==([]:List UInt8))=true:=by rw[hca];exact aaI
    have HANY:Hid (S.any (fun x=>decide (x=emp))=true):=hid (List.any_eq_true.2 ⟨emp,by
     rw[HS.out];simp only[if_true];rw[HSC.out,hca];apply List.mem_append_right;cases cq<;>simp,by simp⟩)
    clear hca;go_wp2;go_ret2;exact⟨fun _=>rfl,fun h=>(by rw[HANY.out]at h;cases h),HB2.out⟩
   have he:((bsB ca).toList==([]:List UInt8))=false:=a0W (l:=[]) hca;have HCA:=hid hca;clear hca;generalize bsB ca=x at *;go_wp2_with (at_builtin;refine wpList_append_own _ rfl _ _ 22 rfl w.heap.size 9 s0 (.string ⟨#[]⟩) 1 16 underlying22 hs0 hy0 hy1 hy2 rfl ox _ _ _ rfl (HO2.out.alloc _) ⟨w2.heap.size,0,none⟩ 1 1 [.string x] rfl rfl ?c1 ?c2 ?c3 ?c4 ?c5 ?_)
   case c1=>exact(a0h _ _ _)
   case c2=>intro u hu;simp at hu;subst hu;rfl
   case c3=>unfold maxLen;omega
   case c4=>omega
   case c5=>simp;omega
   intro v' w3 hown' hgrow _;have RB:=below_append HB2.out hsz2 HO2.out (aof _) hgrow;clear hgrow;go_wp2;go_roundw
   case rel=>
    refine⟨cr,ws++[x],cq,rfl,rfl,?_,?_,?_,?_,by rw[aol,aoE];exact hown',RB⟩
    ·exact hid (by have:=HL.out;have:=HCN.out.2;omega)
    ·exact hid (by rw[HS.out];simp only[if_true];rw[HSC.out];cases cq<;>simp)
    ·exact hid (fun y hy=>by
      rcases aoI.1 hy with hy|hy
      ·exact HW.out y hy
      simp at hy;subst hy;exact HCA.out)
    exact hid (by
     have h1:=HC.out;have h2:=HCF.out.1;simp only[if_true]at h1;rw[aol,apu];cases cq with
     |true=>have:=(h2 rfl).2;simp only[if_true];omega
     |false=>simp only[Bool.false_eq_true,if_false];omega)
   case measure=>
    cases cq with
    |true=>have:=(HCF.out.1 rfl).2;show (bsB cr).size+1<(bsB l).size+1;rw[bsB_size,bsB_size];omega
    |false=>exact Nat.succ_pos _
  | false=>
   have HSW:Hid (S=ws):=hid (by rw[HS.out];simp)
   have HANY:Hid (S.any (fun x=>decide (x=emp))=false):=hid (by
    rw[HSW.out,aq3];intro x hx;simpa using HW.out x hx)
   go_wp2;go_ret2;exact⟨fun h=>(by rw[HANY.out]at h;cases h),fun _=>⟨_,rfl,by rw[HSW.out];exact HO.out⟩,HB.out⟩
end Go.Proofs.YtdfkaijeppdhaaaGreatDoor
namespace Go.Proofs.YtdfkaijeppdhaaaGreatDoor.Fd
open Go.RowKit
structure WR(n0 b cap go co n:Nat)(R:List a04)(out:List Int)(W:World):Prop where
 row:W.ownsRow n0 199 2 (.slice (some ⟨b,0,none⟩) n cap) n (a17 R)
 rout:W.ownsRow n0 3 1 (.slice (some ⟨go,0,none⟩) out.length co) out.length (out.map (Value.int .i64))
 lr:R.length=n
theorem WR.ne{n0 b cap go co n:Nat}{R:List a04}{out:List Int}{W:World}(h:WR n0 b cap go co n R out W):b≠go:=aet h.row h.rout ox
theorem WR.lt{n0 b cap go co n:Nat}{R:List a04}{out:List Int}{W:World}(h:WR n0 b cap go co n R out W):b<W.heap.size/\go<W.heap.size/\n0<=b/\n0<=go:=by
 obtain⟨_,h1,h2⟩:=a2g h.row;obtain⟨_,h3,h4⟩:=a2g h.rout;exact⟨(aog.1 h2).1,(aog.1 h4).1,h1,h3⟩
theorem WR.below{n0 b cap go co n:Nat}{R:List a04}{out:List Int}{W W':World}(h:WR n0 b cap go co n R out W)(hb:Below W.heap.size W W'):WR n0 b cap go co n R out W':=
 ⟨a0P h.row (hb.block _ h.lt.1),a0P h.rout (hb.block _ h.lt.2.1),h.lr⟩
theorem WR.setOut{n0 b cap go co n:Nat}{R:List a04}{out:List Int}{W:World}(h:WR n0 b cap go co n R out W)(k:Nat)(x:Int):WR n0 b cap go co n R (out.set k x) (W.setCell ⟨go,k,none⟩ (.int .i64 x)):=by
 refine⟨a0P h.row (aok _ _ _ _ h.ne),?_,h.lr⟩;rw[List.map_set,ap8];exact(h.rout.stored k (.int .i64 x)).1
theorem WR.setR{n0 b cap go co n:Nat}{R:List a04}{out:List Int}{W:World}(h:WR n0 b cap go co n R out W)(k:Nat)(x:Int)(hk:k<n):WR n0 b cap go co n (R.set k (x,(R.getD k (0,0)).2)) out (W.setCell ⟨b,k * 2,none⟩ (.int .i64 x)):=by
 refine⟨?_,a0P h.rout (aok _ _ _ _ (Ne.symm h.ne)),by rw[ap8];exact h.lr⟩;rw[a7w R k x (by rw[h.lr];exact hk)];exact(h.row.stored (k * 2) (.int .i64 x)).1
theorem WR.facts{n0 b cap go co n:Nat}{R:List a04}{out:List Int}{W:World}(h:WR n0 b cap go co n R out W){k:Nat}(hk:k<n):
  W.cell? ⟨b,k * 2,none⟩=some (.int .i64 (R.getD k (0,0)).1)/\W.cell? ⟨b,k * 2+1,none⟩=some (.int .i64 (R.getD k (0,0)).2)/\W.frozen? ⟨b,k * 2,none⟩=false:=by
 obtain⟨e1,e2⟩:=a47 R k (by rw[h.lr];exact hk);exact⟨(h.row.cellAt _ om).trans e1,(h.row.cellAt _ om).trans e2,h.row.frozenAt _⟩
theorem WR.outAt{n0 b cap go co n:Nat}{R:List a04}{out:List Int}{W:World}(h:WR n0 b cap go co n R out W){k:Nat}(hk:k<out.length):W.cell? ⟨go,k,none⟩=some (.int .i64 (out.getD k 0))/\W.frozen? ⟨go,k,none⟩=false:=by
 refine⟨?_,h.rout.frozenAt _⟩;rw[h.rout.cellAt k om];simp[aoh,hk]
def a4u(R:List a04)(L:List Nat):List a04:=L.foldl (fun r i=>r.set i (0,(r.getD i (0,0)).2)) R
theorem akc(R:List a04)(L:List Nat)(i:Nat):a4u R (L++[i])=(a4u R L).set i (0,((a4u R L).getD i (0,0)).2):=by simp[a4u,apl]
theorem alZ{Q:Int}{R:List a04}{G:List Int}(h:Rep Q R G){i:Nat}(hi:i<G.length):Rep Q (R.set i (0,(R.getD i (0,0)).2)) (G.set i 0):=by
 have hl:=h.len;refine⟨by simp[hl],h.hQ,fun j hj=>?_,fun j hj=>?_⟩
 ·rw[ap8]at hj;by_cases hji:j=i
  ·subst hji;rw[show (R.set j (0,(R.getD j (0,0)).2)).getD j (0,0)=(0,(R.getD j (0,0)).2) by simp[aoh,show j<R.length by omega]];exact h.den j hi
  rw[show (R.set i (0,(R.getD i (0,0)).2)).getD j (0,0)=R.getD j (0,0) by simp[aoh,aq4,Ne.symm hji]];exact h.den j hj
 rw[ap8]at hj;by_cases hji:j=i
 ·subst hji;rw[show (R.set j (0,(R.getD j (0,0)).2)).getD j (0,0)=(0,(R.getD j (0,0)).2) by simp[aoh,show j<R.length by omega],show (G.set j 0).getD j 0=0 by simp[aoh,hj]];simp
 rw[show (R.set i (0,(R.getD i (0,0)).2)).getD j (0,0)=R.getD j (0,0) by simp[aoh,aq4,Ne.symm hji],show (G.set i 0).getD j 0=G.getD j 0 by simp[aoh,aq4,Ne.symm hji]];exact h.val j hj
theorem agi{Q:Int}:∀(L:List Nat) {R:List a04} {G:List Int},Rep Q R G->(∀i∈L,i<G.length)->Rep Q (a4u R L) (a5Q G L)
 |[],_,_,h,_=>h
 |i::L,R,G,h,hl=>agi L (alZ h (hl i oz)) (fun j hj=>by rw[ap8];exact hl j (by simp[hj]))
theorem am0{R:List a04}(h:Mod R)(i:Nat)(hi:i<R.length):Mod (R.set i (0,(R.getD i (0,0)).2)):=fun x hx=>by
 rcases List.mem_or_eq_of_mem_set hx with hx|rfl
 ·exact h x hx
 have:=h _ (a2D hi);exact⟨by simp,by simp,this.2.2.1,this.2.2.2⟩
theorem agj:∀(L:List Nat) {R:List a04},Mod R->(∀i∈L,i<R.length)->Mod (a4u R L)
 |[],_,h,_=>h
 |i::L,R,h,hl=>agj L (am0 h i (hl i oz)) (fun j hj=>by rw[ap8];exact hl j (by simp[hj]))
theorem aeJ:∀(L:List Nat) (R:List a04),(a4u R L).length=R.length
 |[],R=>rfl
 |i::L,R=>(aeJ L _).trans ap8
end Go.Proofs.YtdfkaijeppdhaaaGreatDoor.Fd
namespace Go.Proofs.YtdfkaijeppdhaaaGreatDoor.Fd
open Go.RowKit
structure WQ(n0 b cap n:Nat)(R:List a04)(o:Value)(out:List Int)(W:World):Prop where
 row:W.ownsRow n0 199 2 (.slice (some ⟨b,0,none⟩) n cap) n (a17 R)
 rout:W.ownsRow n0 3 1 o out.length (out.map (Value.int .i64))
 lr:R.length=n
theorem WR.wq{n0 b cap go co n:Nat}{R:List a04}{out:List Int}{W:World}(h:WR n0 b cap go co n R out W):WQ n0 b cap n R (.slice (some ⟨go,0,none⟩) out.length co) out W:=⟨h.row,h.rout,h.lr⟩
theorem WQ.split{n0 b cap n:Nat}{R:List a04}{o:Value}{out:List Int}{W:World}(h:WQ n0 b cap n R o out W)(h0:0<out.length):∃go co,o= .slice (some ⟨go,0,none⟩) out.length co/\WR n0 b cap go co n R out W:=by
 have ho:=h.rout;rcases ho.2 with⟨h1,h2⟩|⟨g,cap',cur,h1,h2,h3,_⟩
 ·omega
 subst h1;exact⟨g,cap',rfl,h.row,ho,h.lr⟩
theorem WQ.facts{n0 b cap n:Nat}{R:List a04}{o:Value}{out:List Int}{W:World}(h:WQ n0 b cap n R o out W){k:Nat}(hk:k<n):
  W.cell? ⟨b,k * 2,none⟩=some (.int .i64 (R.getD k (0,0)).1)/\W.cell? ⟨b,k * 2+1,none⟩=some (.int .i64 (R.getD k (0,0)).2):=by
 obtain⟨e1,e2⟩:=a47 R k (by rw[h.lr];exact hk);exact⟨(h.row.cellAt _ om).trans e1,(h.row.cellAt _ om).trans e2⟩
theorem WQ.appended{n0 b cap n:Nat}{R:List a04}{o:Value}{out:List Int}{W w3:World}{ob:Obj}{g cp m:Nat}{x:Int}(h:WQ n0 b cap n R o out W)
  (hown:w3.ownsRow n0 3 1 (.slice (some ⟨g,0,none⟩) m cp) m (out.map (Value.int .i64)++[.int .i64 x]))(hm:m=out.length+1)
  (hg:(W.alloc ob).grownBy w3 o.ownBlock):WR n0 b cap g cp n R (out++[x]) w3:=by
 subst hm;refine⟨?_,by rw[aol,aoE];exact hown,h.lr⟩;obtain⟨_,h1,h2⟩:=a2g h.row;have hb:b<W.heap.size:=(aog.1 h2).1
 refine a0P (a0P h.row (((aoi _ W).alloc (aof _) ob).block _ hb)) (hg.block b km ?_);intro e;rcases h.rout.2 with⟨h3,h4⟩|⟨g',cap',cur,h3,h4,h5,_⟩
 ·rw[h3]at e;cases e
 subst h3;have:b=g':=by simpa [Value.ownBlock]using e
 subst this;rw[h2]at h5;simp at h5
def GivesHL(L:List Nat)(c:List Int)(n r:Int)(w:World)(e:Ending)(w':World):Prop:=
 ∃ov res,e= .returned (.tuple #[ov,.int .i64 (shareE c n r)])/\IntsAt w' ov res/\Below w.heap.size w w'/\(shareE c n r≠0->res=[])/\
  (shareE c n r=0->res=incL (qsL (shareL c n r)) (L.take (whN n (shareL c n r))))
end Go.Proofs.YtdfkaijeppdhaaaGreatDoor.Fd
namespace Go.Proofs.YtdfkaijeppdhaaaGreatDoor.Fd
open Lib (hid)
open Proofs.Tryz Go.RowKit
theorem rWhole_any (v:Value) (c:List Int) (n r:Int) (w:World) (hv:IntsAt w v c) (L:List Nat) (hL:shareE c n r=0->Orde (gL c n r) L):
  Calls prog 102 #[v,.int .i64 n,.int .i64 r] w (GivesHL L c n r w):=by
 have SH:=hid (ahB v c n r w hv);unfold ab8 at SH;have hl:=abb c n r;clear hv;by_cases h0:shareE c n r=0
 ·have HL:=hid (hL h0);have K:=shOk h0;have WH:=hid (whl_share h0);have E0:=hid h0;rw[K.val]at SH hl;have hpos:=K.pos;have hhi:=K.hi;rw[h0]at SH;clear h0 K hL
  have GD:Hid (∀e w',(∃ov,e=Ending.returned (.tuple #[ov,.int .i64 0])/\IntsAt w' ov (incL (qsL (shareL c n r)) (L.take (whN n (shareL c n r))))/\Below w.heap.size w w')->GivesHL L c n r w e w'):=hid (fun e w' ⟨ov,h1,h3,h4⟩=>
   ⟨ov,_,by rw[E0.out];exact h1,h3,h4,fun h=>absurd E0.out h,fun _=>rfl⟩)
  refine Calls.mono ?_ GD.out;clear GD E0;generalize hG:gL c n r=G at *;generalize frQ c n r=Q at *;clear hG;generalize hll:shareL c n r=l at *;clear hll;obtain⟨N,hN⟩:∃N,N=l.length:=⟨_,rfl⟩
  have HN:=hid hN;obtain⟨i0,hi0,hz0,hz1,hz2⟩:=info_parts Tryz.infoInt;go_enter func102,ntmps102;go_wp2_with fail
  refine SH.out.mono ?_;rintro e w1 ⟨v1,rfl,ho1,hb1⟩;obtain⟨b,cap,rfl,hbb,hbl⟩:=ho1.split hpos;have hrow:=ho1.row;rw[<-hN]at hrow⊢;have hpN:0<N:=om;have hN8:N<=8:=om;have HROW:=hid (show WQ w.heap.size b cap N l (.slice none 0 0) [] w1 from⟨hrow,World.ownsRow_nil _ _ _ _,hN.symm⟩);have HB1:=hid hb1;clear ho1 hb1 hl SH hrow hpos hhi hN hbb hbl;go_wp2;go_loopw [10,11] (fun o iv wr=>∃k:Nat,k<=N/\iv= .int .i64 k/\WQ w.heap.size b cap N (a1H (frL l) l k) o ((qsL l).take k) wr/\Below w.heap.size w wr) (fun _ iv _=>N-(intOf iv).toNat)
  case atStart=>exact⟨0,aot _,rfl,by rw[a7x];exact HROW.out,HB1.out⟩
  case round=>
   clear HROW HB1;obtain⟨k,hk,rfl,hW,hbel⟩:=hrel;by_cases hlt:k<N
   ·have hlt':(k:Int)<(N:Int):=om;obtain⟨x0,d0⟩:=hW.facts hlt;have lF:(frL l).length=N:=by simp[frL,HN.out]
    have lQ:(qsL l).length=N:=by simp[qsL,HN.out]
    rw[a6K lF hk]at x0 d0;have hx:=WH.out.pos k (by rw[<-HN.out];exact hlt);have EQ:=hid (show (qsL l).getD k 0=(l.getD k (0,0)).1 / (l.getD k (0,0)).2 by simp[qsL,aoh,show k<l.length by rw[<-HN.out];exact hlt]);have EF:=hid (show (frL l).getD k (0,0)=((l.getD k (0,0)).1 % (l.getD k (0,0)).2,(l.getD k (0,0)).2) by simp[frL,aoh,show k<l.length by rw[<-HN.out];exact hlt]);have ED:=hid (show ((a1H (frL l) l k).getD k (0,0)).2=(l.getD k (0,0)).2 by rw[a6K lF hk]);have MS:=hid (a8Y (A:=frL l) (B:=l) lF HN.out.symm hlt (0,0));have TS:=hid (show (qsL l).take (k+1)=(qsL l).take k++[(qsL l).getD k 0] by rw[aon om];simp[aoh,show k<(qsL l).length by omega]);have TL:((qsL l).take k).length=k:=by rw[aoy];omega
    have TL2:=hid (show ((qsL l).take (k+1)).length=k+1 by rw[aoy];omega);have HW:=hid hW;have HBL:=hid hbel;generalize hxd:l.getD k (0,0)=xd at *;obtain⟨p,d⟩:=xd;have EX:=hid hxd;clear hxd;simp only at x0 d0 hx EQ EF ED;have hp0:0<=p:=hx.1;have hd1:¬d=0:=om;have hd2:¬d= -1:=om;have hsz:=hbel.size
    have eT:IntKind.i64.wrap (p.tdiv d)=p / d:=by
     rw[Int.tdiv_eq_ediv_of_nonneg hp0];have h1:=Int.ediv_nonneg hp0 (show 0<=d by omega);have h2:=Int.ediv_le_self d hp0;exact IntWalk.i64_in _ om
    have hrow:wr.drew.ownsRow w.heap.size 3 1 u10 ((qsL l).take k).length (((qsL l).take k).map (Value.int .i64)):=hW.rout.drew
    have HWD:=hid (show WQ w.heap.size b cap N (a1H (frL l) l k) u10 ((qsL l).take k) wr.drew from⟨hW.row.drew,hrow,hW.lr⟩);have HBD:=hid hbel.drew;have EV:=hid (a6K (A:=frL l) (B:=l) (n:=N) lF hk (0,0));have CX:=hid (show some (Value.int .i64 ((a1H (frL l) l k).getD k (0,0)).1)=some (.int .i64 p) by rw[EV.out,EX.out]);have CD:=hid (show some (Value.int .i64 ((a1H (frL l) l k).getD k (0,0)).2)=some (.int .i64 d) by rw[EV.out,EX.out]);have X0:=hid x0;have D0:=hid d0;clear hW hbel lF lQ x0 d0;go_wp2_with fail
    go_region_held3 (fun w'=>w'.cell? ⟨b,k * 2,none⟩=some (.int .i64 p)/\w'.cell? ⟨b,k * 2+1,none⟩=some (.int .i64 d))
     (first
      |(exact⟨e3.trans CX.out,e4.trans CD.out⟩)
      |(exact⟨keep_cell (aoi _ wr).drew X0.out,keep_cell (aoi _ wr).drew D0.out⟩)
      |(exact⟨keep_cell ((aoi _ wr).drew.alloc (aof _) _) X0.out,keep_cell ((aoi _ wr).drew.alloc (aof _) _) D0.out⟩)
      |go_keep)
     ((refine step_append_lies _ oy _ _ _ oy w.heap.size 3 i0 _ 1 8 underlying122 hi0 hz0 hz1 hz2 rfl om _ _ _ oy (hrow.alloc _)
        ⟨wr.heap.size,0,none⟩ 1 1 [.int .i64 (p / d)] oy oy (World.news_of_block (cs:=#[.int .i64 (p / d)]) (t:=3) (fr:=(0,0)) (heap_alloc_new wr _)) (by simp[Value.oneCell'])
        om (by unfold maxLen;omega) om km (wr.heap.size+1) oz ?_;intro gg cp w3 hown' hgrow hat hlt3;have hR3:=WQ.appended HWD.out hown' oy hgrow;obtain⟨e3,e4,e5⟩:=hR3.facts hlt;have hB3:=below_append HBD.out hsz hrow hgrow)
)
    have HR3:=hid hR3;have HB3:=hid hB3;rw[EV.out,EX.out]at e3 e4;simp only at e3 e4;clear hR3 hB3 hrow hown' hgrow hat;go_wp2_with fail
    go_region
    have HW6:=hid (show WQ w.heap.size b cap N (a1H (frL l) l (k+1)) (.slice (some ⟨gg,0,none⟩) (k+1) cp) ((qsL l).take (k+1)) (w3.setCell ⟨b,k * 2,none⟩ (.int .i64 (p % d))).drew by
     have h2:WQ w.heap.size b cap N (a1H (frL l) l (k+1)) (.slice (some ⟨gg,0,none⟩) ((qsL l).take (k+1)).length cp) ((qsL l).take (k+1)) (w3.setCell ⟨b,k * 2,none⟩ (.int .i64 (p % d))).drew:=by
      have h:=(HR3.out.setR k (p % d) hlt).wq
      rw[ED.out]at h;have m:=MS.out;rw[EF.out]at m;rw[m]at h;rw[TS.out,EQ.out];exact⟨h.row.drew,h.rout.drew,h.lr⟩
     rw[TL2.out]at h2;exact h2)
    have HB6:=hid ((HB3.out.setCell (p:=⟨b,k * 2,none⟩) HR3.out.lt.2.2.1 (.int .i64 (p % d))).drew);clear e3 e4 e5 eT X0 D0 CX CD hsz hlt3;go_wp2;go_roundw
    case rel=>exact⟨k+1,om,by go_num,HW6.out,HB6.out⟩
    case measure=>simp[intOf];omega
   obtain rfl:k=N:=om;have lF:(frL l).length=k:=by simp[frL,HN.out]
   have lQ:(qsL l).length=k:=by simp[qsL,HN.out]
   rw[a8X lF HN.out.symm,aou om]at hW;obtain⟨go,co,hsl,hR⟩:=hW.split om;rw[lQ]at hsl;subst hsl
   have hIq:IntsAt wr (.slice (some ⟨go,0,none⟩) k co) (qsL l):=by
    have h:=hR.rout;rw[lQ]at h;rw[<-lQ]at h⊢;exact own_ints h om
   have SM:=hid (a3A _ (qsL l) wr hIq WH.out.cvl);obtain⟨m,hm⟩:=aoH WH.out.lo;have hmk:m<=k:=by have h:=WH.out.hi;rw[hm,<-HN.out]at h;omega
   have HMN:=hid (show whN n l=m by unfold whN;rw[hm];rfl);have HM:=hid hm;have e1:IntKind.i64.wrap (n-tot (qsL l))=(m:Int):=by rw[hm];exact IntWalk.i64_in _ om
   have hgl:G.length=k:=by rw[WH.out.len];exact HN.out.symm
   have HGL:=hid hgl;have LQ:=hid lQ;have LF:=hid lF;have HR:=hid hR;have HBL:=hid hbel
   have IB:=hid (fun L' x=>incL_bd L' (qsL l) 1000 (fun i=>by
    by_cases hi:i<(qsL l).length
    ·exact WH.out.cvl.holds _ (a1v hi)
    rw[aoh,apa om];simp) x)
   have NP:=hid (fun(j:Nat) (hj:(j:Int)<(m:Int))=>alJ (k:=j) HL.out WH.out.bd WH.out.sum WH.out.rep.hQ (by rw[hm];exact hj));have hLk:L.length=k:=by rw[orde_len HL.out];exact hgl
   have HLK:=hid hLk;clear hW hR hIq lF lQ hm hgl hbel hLk;generalize tot (qsL l)=T at *;go_wp2_with fail
   refine SM.out.mono ?_;rintro e w' ⟨rfl,rfl⟩;go_wp2;clear e1 SM;go_loopw [12] (fun lv wr=>∃(j:Nat) (q:Int),j<=m/\lv= .int .i64 q/\q+(j:Int)=(m:Int)/\WR w.heap.size b cap go co k (a4u (frL l) (L.take j)) (incL (qsL l) (L.take j)) wr/\Below w.heap.size w wr) (fun lv _=>(intOf lv).toNat)
   case atStart=>exact⟨0,_,aot _,rfl,om,by simpa [incL,a4u]using HR.out,HBL.out⟩
   case round=>
    clear HR HBL;obtain⟨j,q,hj,rfl,hqj,hR,hbel⟩:=hrel;obtain⟨wo,rfl⟩:∃wo:World,wo=wr:=⟨_,rfl⟩
    by_cases hq0:0<q
    ·obtain⟨hjL,hpos⟩:=NP.out j om
     have hxk:L[j]<k:=by
      have h:=a4J HL.out (aoZ hjL);rw[HGL.out]at h;exact h
     have MO:=hid (show moG (a5Q G (L.take j)) k=L[j] by
      rw[<-HGL.out];exact ane HL.out (fun i hi=>(WH.out.bd i hi).1) hjL hpos)
     have hin:∀i∈L.take j,i<G.length:=fun i hi=>a4J HL.out (ap2 hi);have RP:=hid (agi (L.take j) WH.out.rep hin);have MD:=hid (agj (L.take j) WH.out.mod (fun i hi=>by rw[LF.out,<-HGL.out];exact hin i hi));have LR:=hid (show (a4u (frL l) (L.take j)).length=k by rw[aeJ,LF.out]);have LG:=hid (show (a5Q G (L.take j)).length=k by rw[a9O,HGL.out]);have TS:=hid (show incL (qsL l) (L.take (j+1))=(incL (qsL l) (L.take j)).set L[j] ((incL (qsL l) (L.take j)).getD L[j] 0+1) by rw[aon hjL,acH]);have TR:=hid (show a4u (frL l) (L.take (j+1))=(a4u (frL l) (L.take j)).set L[j] (0,((a4u (frL l) (L.take j)).getD L[j] (0,0)).2) by rw[aon hjL,akc]);have hbd:=IB.out (L.take j) L[j];have htl:(L.take j).length<=8:=by rw[aoy];omega
     have LO:=hid (show (incL (qsL l) (L.take j)).length=k by rw[incL_len,LQ.out]);have HR:=hid hR;have HBL:=hid hbel;have hxk':(L[j]:Int)<(k:Int):=om;clear hR hbel hin hpos;generalize L[j]=x at *;generalize a5Q G (L.take j)=GG at *;generalize hZ:a4u (frL l) (L.take j)=R at *;generalize hO:incL (qsL l) (L.take j)=O at *;clear hZ hO;go_wp2;go_loopw [13,14] (fun s i wq=>∃i':Nat,i'<=k/\i= .int .i64 i'/\s= .int .i64 (moG GG i':Nat)/\Below wo.heap.size wo wq) (fun _ i _=>k-(intOf i).toNat)
     case atStart=>exact⟨0,aot _,rfl,rfl,aoi _ _⟩
     case round=>
      obtain⟨i',hi',rfl,rfl,hbq⟩:=hrel;by_cases hlt:i'<k
      ·have hlt':(i':Int)<(k:Int):=om;have hbi:moG GG i'<k:=by have h:=aen (G:=GG) (by rw[LG.out];omega) i' (by rw[LG.out];exact hi');rw[LG.out]at h;exact h
       have hbi':((moG GG i':Nat):Int)<(k:Int):=om;obtain⟨x0,d0,_⟩:=HR.out.facts hbi;obtain⟨y0,f0,_⟩:=HR.out.facts hlt;have x1:=keep_cell hbq x0;have d1:=keep_cell hbq d0;have y1:=keep_cell hbq y0;have f1:=keep_cell hbq f0;have hx:=MD.out _ (a2D (k:=moG GG i') (by rw[LR.out];exact hbi));have hy:=MD.out _ (a2D (k:=i') (by rw[LR.out];exact hlt));have LT:=hid (RP.out.lt (i:=moG GG i') (j:=i') (by rw[LG.out];exact hbi) (by rw[LG.out];exact hlt));have MS:=hid (show moG GG (i'+1)=if GG.getD (moG GG i') 0<GG.getD i' 0 then i' else moG GG i' from rfl);have HBQ:=hid hbq;clear x0 d0 y0 f0 hbq hbi;generalize R.getD (moG GG i') (0,0)=xd at *;generalize R.getD i' (0,0)=yd at *;generalize moG GG i'=bi at *;obtain⟨p,q'⟩:=xd;obtain⟨n',d⟩:=yd;simp only at x1 d1 y1 f1 hx hy LT
       have m1: -1000000000 * 1000000<=p * d/\p * d<=1000000000 * 1000000:=by
        constructor
        ·have:=aoo (show-1000000000<=p by omega) (show 0<=d by omega);omega
        have:=aoo (show p<=1000000000 by omega) (show 0<=d by omega);omega
       have m2: -1000000000 * 1000000<=n' * q'/\n' * q'<=1000000000 * 1000000:=by
        constructor
        ·have:=aoo (show-1000000000<=n' by omega) (show 0<=q' by omega);omega
        have:=aoo (show n'<=1000000000 by omega) (show 0<=q' by omega);omega
       have C:=hid (fun W=>ahv p q' n' d W om om);by_cases hgt:p * d<n' * q'
       ·have MK:Hid (moG GG (i'+1)=i'):=hid (by rw[MS.out,if_pos (LT.out.1 hgt)]);have hcv:Hid (decide (p * d<n' * q')=true):=hid (decide_eq_true hgt);clear MS LT hgt;go_wp2;go_still_tail 8,ot
        change wpList _ _ _ _ _ wr.drew;go_wp2_with fail
        refine(C.out _).mono ?_
        rintro e w2 ⟨rfl,hb2⟩;rw[hcv.out];have HB2:=hid (HBQ.out.trans ((((aoi _ wr).drew).trans hb2:Below wr.heap.size wr w2).mono HBQ.out.size));clear x1 d1 y1 f1 hb2;go_wp2;go_roundw
        case rel=>exact⟨i'+1,om,by go_num,by rw[MK.out],HB2.out⟩
        case measure=>simp[intOf];omega
       have MK:Hid (moG GG (i'+1)=bi):=hid (by rw[MS.out,if_neg (fun h=>hgt (LT.out.2 h))]);have hcv:Hid (decide (p * d<n' * q')=false):=hid (decide_eq_false hgt);clear MS LT hgt;go_wp2;go_still_tail 8,ot
       change wpList _ _ _ _ _ wr.drew;go_wp2_with fail
       refine(C.out _).mono ?_
       rintro e w2 ⟨rfl,hb2⟩;rw[hcv.out];have HB2:=hid (HBQ.out.trans ((((aoi _ wr).drew).trans hb2:Below wr.heap.size wr w2).mono HBQ.out.size));clear x1 d1 y1 f1 hb2;go_wp2;go_roundw
       case rel=>exact⟨i'+1,om,by go_num,by rw[MK.out],HB2.out⟩
       case measure=>simp[intOf];omega
      obtain rfl:i'=k:=om;rw[MO.out];obtain⟨_,_,fr0⟩:=HR.out.facts hxk;obtain⟨o0,fo0⟩:=HR.out.outAt (k:=x) (by rw[LO.out];exact hxk);have o1:=keep_cell hbq o0;have HRW:=hid (HR.out.below hbq);obtain⟨_,_,fr1⟩:=HRW.out.facts hxk;obtain⟨_,fo1⟩:=HRW.out.outAt (k:=x) (by rw[LO.out];exact hxk);have HS:=hid ((HRW.out.setOut x (O.getD x 0+1)).setR x 0 hxk);have HBB:=hid (((HBL.out.trans (hbq.mono HBL.out.size)).setCell (p:=⟨go,x,none⟩) HRW.out.lt.2.2.2 (.int .i64 (O.getD x 0+1))).setCell (p:=⟨b,x * 2,none⟩) HRW.out.lt.2.2.1 (.int .i64 0));have hne:¬b=go:=HRW.out.ne;generalize hy:O.getD x 0=y at *;clear o0 fo0 fr0 hbq hy;go_wp2;go_roundw
      case rel=>exact⟨j+1,q-1,om,by go_num,om,by rw[TR.out,TS.out];exact HS.out,HBB.out⟩
      case measure=>simp[intOf];omega
    obtain rfl:q=0:=om;obtain rfl:j=m:=om
    have HI:=hid (show IntsAt wo (.slice (some ⟨go,0,none⟩) k co) (incL (qsL l) (L.take (whN n l))) by
     rw[HMN.out];have h:=hR.rout;have hl:(incL (qsL l) (L.take j)).length=k:=by rw[incL_len,LQ.out]
     rw[hl]at h;rw[<-hl]at h⊢;exact own_ints h (by rw[hl];omega))
    have HB:=hid hbel;clear hR hbel;go_wp2;refine bodyPost_ret (v:=.tuple #[.slice (some ⟨go,0,none⟩) k co,.int .i64 0]) (by simp[results,results102,go_sem]) rfl ⟨_,rfl,HI.out,HB.out⟩
 have E:=hid (show a0Z c n r=[] by unfold a0Z;rw[if_neg h0]);have hb:(shareE c n r != 0)=true:=bne_iff_ne.2 h0;have GD:Hid (∀e w',(∃ov,e=Ending.returned (.tuple #[ov,.int .i64 (shareE c n r)])/\IntsAt w' ov []/\Below w.heap.size w w')->GivesHL L c n r w e w'):=hid (fun e w' ⟨ov,h1,h3,h4⟩=>⟨ov,[],h1,h3,h4,fun _=>rfl,fun h=>absurd h h0⟩);refine Calls.mono ?_ GD.out;clear h0 GD hL;generalize shareE c n r=se at *;go_enter func102,ntmps102;go_wp2_with fail
 refine SH.out.mono ?_;rintro e w1 ⟨v1,rfl,ho1,hb1⟩;have H1:=ho1.at hl;rw[E.out]at H1;obtain⟨oa,oc,rfl,_⟩:=H1;have HB1:=hid hb1;clear ho1 hb1;go_wp2;refine bodyPost_ret (v:=.tuple #[.slice none 0 0,.int .i64 se]) (by simp[results,results102,go_sem]) rfl ⟨_,rfl,⟨none,0,rfl,by simp,fun h=>by simp at h⟩,HB1.out⟩
end Go.Proofs.YtdfkaijeppdhaaaGreatDoor.Fd
