/- Part of the proof. -/
import Derived.Test.YtdfkaijeppdhaaaGreatDoorZHs08
import Derived.Test.YtdfkaijeppdhaaaGreatDoorZHs05
import Derived.Laws.AppendOwnNone
import Derived.Shelf.SlSortCmp.NoneTotal
set_option maxRecDepth 100000
set_option maxHeartbeats 8000000

namespace Go.Proofs.YtdfkaijeppdhaaaGreatDoor
open Lib (hid)
open Proofs.Tryz Go.RowKit Go.Sort Go.Proofs Go.Lib Go.Shelf
section
variable{α:Type} [Inhabited α]
theorem aag{enc:α->Value}{w:World}{g:Nat}{cur:Array Value}{e:TypeId}{d:Array α}(hb:w.heap[g]? =some (.cells cur e (0,0)))(ht:cur.toList.take d.size=d.toList.map enc):Holds enc w g 0 d:=by
 intro j hj;refine⟨?_,by simp[World.frozen?,hb]⟩;have h1:(cur.toList.take d.size)[j]? =(d.toList.map enc)[j]? :=by rw[ht]
 rw[List.getElem?_take_of_lt hj]at h1;simp only[World.cell?,hb,ap5];simp only[apU,Bool.false_eq_true,if_false];rw[<-Array.getElem?_toList,h1];simp[hj]
theorem adC{enc:α->Value}{w:World}{g n:Nat}{os:Array Obj}{cur:Array Value}{e:TypeId}{fr:Nat×Nat}(d:Array α)(hb:w.heap[g]? =some (.cells cur e fr)):
  (sortWorld enc w g 0 n d os).heap[g]? =some (.cells (putCells enc 0 d cur) e fr):=by
 unfold sortWorld;have hg:g<w.heap.size:=(aog.1 hb).1
 rw[heap_grow_old _ _ (by simpa using hg)];simp[putRow,mapBlock,Sort.ahead,Array.getElem?_modify,hb,onCells]
theorem aah{enc:α->Value}{w:World}{g n:Nat}{os:Array Obj}(d:Array α):w.grownBy (sortWorld enc w g 0 n d os) (some g):=by
 unfold sortWorld;refine⟨rfl,rfl,rfl,by simp,fun k hk hne=>?_⟩;rw[heap_grow_old _ _ (by simpa using hk)];have:g≠k:=fun e=>hne (by rw[e]);simp[putRow,mapBlock,Sort.ahead,Array.getElem?_modify,this]
theorem abC{enc:α->Value}(cur:Array Value)(d:Array α)(h:d.size<=cur.size):(putCells enc 0 d cur).toList.take d.size=d.toList.map enc:=by
 apply List.ext_getElem?;intro j;by_cases hj:j<d.size
 ·rw[List.getElem?_take_of_lt hj,Array.getElem?_toList];simp[putCells,hj,show j<cur.size by omega]
 rw[List.getElem?_take_eq_none om,apa km]
end
theorem adD(d:Array Ent):(flatK a1s 4 d).toList=a0i d.toList:=by
 apply List.ext_getElem?;intro t;by_cases ht:t<d.size * 4
 ·have hj:t / 4<d.toList.length:=by simp;omega
  have h1:=a3b d.toList (t / 4) (t % 4) hj om;rw[show t / 4 * 4+t % 4=t by omega]at h1;rw[h1,Array.getElem?_toList];have hs:t<(flatK a1s 4 d).size:=by simp;exact ht
  rw[aoD hs,<-getElem!_pos (flatK a1s 4 d) t hs,get_flatK _ _ _ _ ht];have hd:d[t / 4]! =d.toList[t / 4]:=by rw[getElem!_pos d (t / 4) (by simpa using hj)];simp
  rw[hd];have hc:t % 4<(a1s d.toList[t / 4]).length:=by unfold a1s;simp;omega
  rw[aoj hc,getElem!_pos (a1s (d.toList[t / 4])) (t % 4) hc]
 rw[apa km,apa (by rw[a18];simp;omega)]
theorem a6Z(a b:Ent):a7I a b<0↔eLt a b:=by
 unfold a7I;split
 ·simp[*]
 split<;>simp[*]
theorem akN:SWO (ltOf a7I) where
 irrefl x:=by
  unfold ltOf;exact decide_eq_false fun h=>agm x ((a6Z x x).1 h)
 trans x y z h1 h2:=by
  unfold ltOf at *;rw[decide_eq_true_eq,a6Z]at *;exact abW h1 h2
 ntrans x y z h1 h2:=by
  unfold ltOf at *;rw[decide_eq_false_iff_not,a6Z]at *;unfold eLt at *;omega
def akO(base:Nat)(v:Value)(l:List Ent)(w:World)(e:Ending)(w':World):Prop:=
 e= .returned (.tuple #[])/\∃l':List Ent,l'.Perm l/\l'.Pairwise (fun a b=>¬eLt b a)/\w'.ownsRow base 43 4 v l.length (a0i l')/\Below base w w'
theorem akP(base:Nat)(v:Value)(l:List Ent)(w:World)(hpos:0<l.length)(hn:l.length<=1000000)(hb:base<=w.heap.size)(h:w.ownsRow base 43 4 v l.length (a0i l)):
  Calls prog 94 #[v,.func (.func 95) #[] #[]] w (akO base v l w):=by
 rcases h.2 with⟨_,h0⟩|⟨g,cap,cur,rfl,hB,hg,hcap,hmax,hcs,htk⟩
 ·omega
 obtain⟨d,rfl⟩:∃d:Array Ent,l=d.toList:=⟨l.toArray,by simp⟩
 have hlt:g<w.heap.size:=(aog.1 hg).1
 have hfs:(flatK a1s 4 d).size=d.size * 4:=size_flatK _ _ _
 have hH:HoldsK a1s 4 w g 0 d:=by
  refine aag hg ?_;rw[hfs,adD,List.map_id];simpa using htk
 have hcmp:CmpLays prog 95 #[] a1s 4 a7I g 0 d.size w:=fun m os dk hs x y=>aiG x y _
 have T:=AnyQ.slices_SortFunc Tryz.sortE 4 isAgg43 sizeOf43 a1s (fun _=>rfl) (fun x u hu=>by simp[a1s]at hu;rcases hu with rfl|rfl|rfl|rfl<;>rfl) a7I akN 95 #[] g 0 cap d w
  (enters_of func95 ot rfl) hcmp hH hlt (by simp at hn;omega)
 rw[show d.size=d.toList.length by simp]at T;refine T.mono ?_;rintro e w' ⟨rfl,d',n,os,hp,hs,rfl⟩;obtain⟨hp1,_,hp3⟩:=hp;rw[show d.toList.length=d.size by simp]at hp3 hs
 have hpp:d'.toList.Perm d.toList:=by
  have e1:d'.extract 0 d.size=d':=by rw[<-hp1];simp
  have e2:d.extract 0 d.size=d:=by simp
  rwa[e1,e2]at hp3
 have e0:sortWorldK a1s 4 w g 0 n d' os=sortWorld id w g 0 n (flatK a1s 4 d') os:=rfl;rw[e0];have hgb:=aah (enc:=id) (w:=w) (g:=g) (n:=n) (os:=os) (flatK a1s 4 d');have hfs':(flatK a1s 4 d').size=d.size * 4:=by rw[size_flatK,hp1]
 refine⟨rfl,d'.toList,hpp,?_,?_,?_⟩
 ·rw[apo];intro i j hi hj hij;have:=of_decide_eq_false (hs i j (aot _) hij (by rw[<-hp1];simpa using hj));rw[getElem!_pos d' i (by simpa using hi),getElem!_pos d' j (by simpa using hj),a6Z]at this;simpa using this
 ·have hcl:d.size * 4<=cur.size:=by rw[hcs];simp at hcap;omega
  refine⟨by rw[a18];simp[hp1],.inr ⟨g,cap,_,rfl,hB,adC _ hg,hcap,hmax,by simp[putCells,hcs],?_⟩⟩;have:=abC (enc:=id) cur (flatK a1s 4 d') (by rw[hfs'];exact hcl);rw[hfs',List.map_id,adD]at this;simpa using this
 exact(aoi base w).grown hgb hb (fun k e=>by injection e with e;omega)
end Go.Proofs.YtdfkaijeppdhaaaGreatDoor
namespace Go.Proofs.YtdfkaijeppdhaaaGreatDoor
open Lib (hid)
open Proofs.Tryz Go.RowKit Go.Shelf
theorem Tryz.infoEnt:(prog.info? 43).map (fun i=>(i.zero,i.size,i.bytes))=some (some (.agg #[.int .i64 0,.int .i64 0,.int .i64 0,.string ⟨#[]⟩]),4,40):=ot
theorem ListAt.forms{w:World}{v:Value}{l:List Ent}(h:ListAt w v l):(v= .slice none 0 0/\l=[])\/∃g cap,v= .slice (some ⟨g,0,none⟩) l.length cap/\l.length<=cap:=by
 rcases h.2 with⟨rfl,h0⟩|⟨g,cap,cur,rfl,_,_,hc,_⟩
 ·exact .inl ⟨rfl,aoz.1 h0⟩
 exact .inr ⟨g,cap,rfl,hc⟩
theorem a0q{n:Nat}{w w':World}(h:Below n w w')(k:Nat):Below n w (w'.drewN k):=⟨h.os,h.tape.trans rfl,h.output,h.size,h.block⟩
theorem a2l{w:World}{base base':Nat}{e:TypeId}{size:Nat}{v:Value}{n:Nat}{xs:List Value}(h:w.ownsRow base e size v n xs)(hb:base'<=base):w.ownsRow base' e size v n xs:=by
 refine⟨h.1,?_⟩;rcases h.2 with hn|⟨g,cap,cur,hv,hbg,hrest⟩
 ·exact .inl hn
 exact .inr ⟨g,cap,cur,hv,aor hb hbg,hrest⟩
theorem own_shape{base:Nat}{w:World}{e:TypeId}{sz:Nat}{v:Value}{n:Nat}{xs:List Value}(h:w.ownsRow base e sz v n xs):∃a cap,v= .slice a n cap:=by
 rcases h.2 with⟨rfl,h0⟩|⟨g,cap,cur,rfl,_⟩
 ·exact⟨none,0,by rw[h0]⟩
 exact⟨_,_,rfl⟩
theorem a5l{base:Nat}{w:World}{e:TypeId}{sz:Nat}{v:Value}{n:Nat}{xs:List Value}(h:w.ownsRow base e sz v n xs):∃a cap,v= .slice a n cap:=own_shape h
theorem aiH{b:a00}(hb:a02 b)(seen:Nat->Int){l':List Ent}(hp:l'.Perm (a3N b seen))(hs:l'.Pairwise fun a b=>¬eLt b a):l'=a2v b seen:=by
 refine a90 ?_ (a7K hb seen) hp;have hk:=abZ hp.symm (a7K hb seen)
 exact(hs.and hk).imp fun {a c} h12=>by
  obtain⟨h1,h2⟩:=h12;rcases aid a c with h|h|h
  ·exact h
  ·exact absurd h h1
  exact absurd h h2
def a14(b:a00)(seen:Nat->Int):Nat->List Ent
 |0=>[]
 |k+1=>a14 b seen k++a1M b seen k
theorem aai(b:a00)(seen:Nat->Int):a14 b seen 4=a3N b seen:=by simp[a14,a3N]
theorem aiI(b:a00)(seen:Nat->Int)(i:Nat):(a1M b seen i).length<=(b i).length:=by unfold a1M;rw[aoG];omega
theorem a86(b:a00)(seen:Nat->Int)(h:∀i,i<4->(b i).length<=60):∀k,k<=4->(a14 b seen k).length<=60 * k
 |0,_=>by simp[a14]
 |k+1,hk=>by
  have h1:=a86 b seen h k om;have h2:=aiI b seen k;have h3:=h k om;show (a14 b seen k++a1M b seen k).length<=_
  rw[aol];omega
theorem akQ{w:World}{base g cap n:Nat}{l:List Ent}(h:w.ownsRow base 43 4 (.slice (some ⟨g,0,none⟩) n cap) n (a0i l))(hl:l.length=n)(lo:Nat):∀j u,(a0i (l.drop lo))[j]? =some u->w.cell? ((⟨g,lo * 4,none⟩:Addr).add j)=some u:=by
 intro j u hj;have hsp:a0i l=a0i (l.take lo)++a0i (l.drop lo):=by rw[<-a2f,ap9]
 rw[Addr.add_lit];have hjl:=(api.1 hj).1
 rw[a18,aoG]at hjl;rw[h.cellAt (lo * 4+j) om,hsp,aoX (by rw[a18,aoy];omega),<-hj];congr 1;rw[a18,aoy];omega
theorem a3s(l:List Ent):∀u∈a0i l,u.oneCell'=true:=by
 intro u hu;unfold a0i at hu;obtain⟨e,_,he⟩:=List.mem_flatMap.1 hu;simp[a1s]at he;rcases he with rfl|rfl|rfl|rfl<;>rfl
def a3t(l:List Ent)(w:World)(e:Ending)(w':World):Prop:=∃v,e= .returned v/\ListAt w' v l/\(∀k,v.ownBlock=some k->w.heap.size<=k)/\Below w.heap.size w w'
theorem ac6(K:Nat)(F:List Nat)(b:a00)(s0 s1 s2 s3:Int)(seen:Nat->Int)(hs:seen 0=s0/\seen 1=s1/\seen 2=s2/\seen 3=s3)(w:World)(h:BookAt w K F b)(hl:∀i,i<4->(b i).length<=60)(hok:a02 b):
  Calls prog 63 #[.pointer (some ⟨K,0,none⟩),.agg #[.int .i64 s0,.int .i64 s1,.int .i64 s2,.int .i64 s3]] w (a3t (a2v b seen) w):=by
 obtain⟨i0,hi0,hz0,hz1,hz2⟩:=info_parts Tryz.infoEnt;have HH:=hid h;have HL:=hid hl;have HOK:=hid hok;obtain⟨w2,hw2⟩:∃w2,w2=w.alloc (.cells #[.int .i64 s0,.int .i64 s1,.int .i64 s2,.int .i64 s3] 34):=⟨_,rfl⟩
 have hz:w.heap.size+1<=w2.heap.size:=by rw[hw2];simp
 have HB2:Hid (Below w.heap.size w w2):=hid (by rw[hw2];exact(aoi _ w).alloc (aof _) _);have HX2:Hid (w2.heap[w.heap.size]? =some (.cells #[.int .i64 s0,.int .i64 s1,.int .i64 s2,.int .i64 s3] 34 (0,0))):=hid (by rw[hw2];exact World.alloc_heap_new w _)
 have HXC:Hid (∀k:Nat,k<4->w2.cell? ⟨w.heap.size,k,none⟩=some (.int .i64 (seen k))):=hid (fun k hk=>by
  obtain⟨e0,e1,e2,e3⟩:=hs;rcases (show k=0\/k=1\/k=2\/k=3 by omega)with rfl|rfl|rfl|rfl
  ·rw[e0];exact heap_cell HX2.out rfl
  ·rw[e1];exact heap_cell HX2.out rfl
  ·rw[e2];exact heap_cell HX2.out rfl
  rw[e3];exact heap_cell HX2.out rfl)
 have HW2:=hid hw2;clear h hl hok hs hw2;go_enter func63,ntmps63;go_wp2_with fail
 rw[<-HW2.out];go_loopw [5,10] (fun o i wr=>∃k:Nat,k<=4/\i= .int .i64 k/\Hid (wr.ownsRow w2.heap.size 43 4 o (a14 b seen k).length (a0i (a14 b seen k)))/\Hid (Below w2.heap.size w2 wr)) (fun _ i _=>4-(intOf i).toNat)
 case atStart=>exact⟨0,aot _,rfl,hid (World.ownsRow_nil _ _ _ _),hid (aoi _ _)⟩
 case round=>
  obtain⟨k,hk,rfl,hown,hbel⟩:=hrel;by_cases hlt:k<4
  ·have hlt2:(k:Int)<4:=om;have hge:(0:Int)<=(k:Int):=om
   obtain⟨v,hv,hlist⟩:=((HH.out.keep (fun j hj=>(HB2.out.block j (by
    rcases hj with rfl|hj
    ·obtain⟨_,_,_,_,hK,_⟩:=HH.out;exact(aog.1 hK).1
    ·exact HH.out.lt hj)))).keep (fun j hj=>hbel.out.block j (by
    rcases hj with rfl|hj
    ·obtain⟨_,_,_,_,hK,_⟩:=HH.out;have:=(aog.1 hK).1;omega
    have:=HH.out.lt hj;omega))).cell hlt
   have HLI:=hid hlist;have hsc:=keep_cell hbel.out (HXC.out k hlt);have HLK:=hid (HL.out k hlt);have HCL:=hid (a86 b seen HL.out k hk);have hwz:=hbel.out.size;rcases hlist.forms with⟨rfl,hnil⟩|⟨g,cap,rfl,hcap⟩
   ·clear hlist;have HN:Hid (a1M b seen k=[]):=hid (by unfold a1M;rw[hnil,List.drop_nil]);clear hnil;have hlo:min (max 0 (seen k)) 0=0:=om;generalize seen k=s at hsc hlo;go_wp2;go_quiet (fail)
    have HO2:Hid ((wr.drewN nq).ownsRow w2.heap.size 43 4 u5 (a14 b seen k).length (a0i (a14 b seen k))):=hid (own_below hown.out (a0q (aoi wr.heap.size wr) nq));go_wp2_with (at_builtin;refine wpList_append_own_none rfl _ _ 40 rfl w2.heap.size 43 i0 4 underlying40 hi0 _ _ _ rfl HO2.out rfl ?_)
    have HE:Hid (a14 b seen (k+1)=a14 b seen k):=hid (by show a14 b seen k++a1M b seen k=_;rw[HN.out,apj]);have HO3:Hid ((wr.drewN nq).ownsRow w2.heap.size 43 4 u5 (a14 b seen (k+1)).length (a0i (a14 b seen (k+1)))):=hid (by rw[HE.out];exact HO2.out);have HB3:=hid (a0q hbel.out nq);go_wp2;go_roundw
    case rel=>exact⟨k+1,om,by go_num,HO3,HB3⟩
    case measure=>simp[intOf];omega
   clear hlist;obtain⟨n,hn⟩:∃n,n=(b k).length:=⟨_,rfl⟩
   have HNL:=hid hn;rw[<-hn]at hv hcap;obtain⟨lo,hlo0⟩:∃lo:Nat,min (max 0 (seen k)) (n:Int)=(lo:Int):=⟨(min (max 0 (seen k)) (n:Int)).toNat,om⟩
   have HLO:Hid (a1M b seen k=(b k).drop lo):=hid (by unfold a1M;rw[<-hn,hlo0,aoY]);have hlon:lo<=n:=om;have hn60:n<=60:=by rw[hn];exact HLK.out
   have hlo:=hlo0;clear hn hlo0;generalize seen k=s at hsc hlo;have l1:(0:Int)<=(lo:Int):=om;have l2:(lo:Int)<=(cap:Int):=om;have l3:(lo:Int)<=(n:Int):=om;by_cases hc1:lo=cap
   ·have hc2:n=cap:=om;subst hc1;subst hc2;have HNL2:Hid ((a0i ((b k).drop n)).length=0 * 4):=hid (by rw[a18,aoG,<-HNL.out];omega);go_wp2;go_quiet (fail)
    have HO2:Hid ((wr.drewN nq).ownsRow w2.heap.size 43 4 u5 (a14 b seen k).length (a0i (a14 b seen k))):=hid (own_below hown.out (a0q (aoi wr.heap.size wr) nq));have HNW:=hid (show∀j u,(a0i ((b k).drop n))[j]? =some u->(wr.drewN nq).cell? ((⟨g,0,none⟩:Addr).add j)=some u from fun j u hj=>by rw[List.eq_nil_of_length_eq_zero (show (a0i ((b k).drop n)).length=0 by rw[HNL2.out])]at hj;simp at hj);go_wp2_with (at_builtin;refine wpList_append_own _ rfl _ _ 40 rfl w2.heap.size 43 i0 (.agg #[.int .i64 0,.int .i64 0,.int .i64 0,.string ⟨#[]⟩]) 4 40 underlying40 hi0 hz0 hz1 hz2 rfl ox _ _ _ rfl HO2.out ⟨g,0,none⟩ (0) (0) (a0i ((b k).drop n)) rfl HNL2.out HNW.out (a3s _) (by unfold maxLen;have:=HCL.out;omega) (by have:=HCL.out;omega) (by show w2.heap.size<=wr.heap.size;exact hwz) ?_)
    intro v' w4 hown' hgrow _;have HE:Hid (a14 b seen (k+1)=a14 b seen k++(b k).drop n):=hid (by show a14 b seen k++a1M b seen k=_;rw[HLO.out]);have HO3:Hid (w4.ownsRow w2.heap.size 43 4 v' (a14 b seen (k+1)).length (a0i (a14 b seen (k+1)))):=hid (by rw[HE.out,a2f,aol,aoG,<-HNL.out,aq8];exact hown');have HB3:=hid ((a0q hbel.out nq).grown hgrow (by show w2.heap.size<=wr.heap.size;exact hwz) (fun j e=>(HO2.out.lt j e).1));clear hown' hgrow;go_wp2;go_roundw
    case rel=>exact⟨k+1,om,by go_num,HO3,HB3⟩
    case measure=>simp[intOf];omega
   have HNL2:Hid ((a0i ((b k).drop lo)).length=(n-lo) * 4):=hid (by rw[a18,aoG,<-HNL.out]);have HLI2:=hid (show wr.ownsRow 0 43 4 (.slice (some ⟨g,0,none⟩) n cap) n (a0i (b k))from by have h9:=HLI.out;unfold ListAt at h9;rw[<-HNL.out]at h9;exact h9);have hc3:¬cap=lo:=fun e=>hc1 e.symm;go_wp2;go_quiet (fail)
   have HO2:Hid ((wr.drewN nq).ownsRow w2.heap.size 43 4 u5 (a14 b seen k).length (a0i (a14 b seen k))):=hid (own_below hown.out (a0q (aoi wr.heap.size wr) nq));have HNW:=hid (show∀j u,(a0i ((b k).drop lo))[j]? =some u->(wr.drewN nq).cell? ((⟨g,lo * 4,none⟩:Addr).add j)=some u from fun j u hj=>by rw[World.cell?_drewN];exact akQ HLI2.out HNL.out.symm lo j u hj);go_wp2_with (at_builtin;(refine wpList_append_own _ rfl _ _ 40 rfl w2.heap.size 43 i0 (.agg #[.int .i64 0,.int .i64 0,.int .i64 0,.string ⟨#[]⟩]) 4 40 underlying40 hi0 hz0 hz1 hz2 rfl ox _ _ _ rfl HO2.out ⟨g,lo * 4,none⟩ (n-lo) (cap-lo) (a0i ((b k).drop lo)) rfl HNL2.out HNW.out (a3s _) (by unfold maxLen;have:=HCL.out;omega) (by have:=HCL.out;omega) (by show w2.heap.size<=wr.heap.size;exact hwz) ?_))
   intro v' w4 hown' hgrow _;have HE:Hid (a14 b seen (k+1)=a14 b seen k++(b k).drop lo):=hid (by show a14 b seen k++a1M b seen k=_;rw[HLO.out]);have HO3:Hid (w4.ownsRow w2.heap.size 43 4 v' (a14 b seen (k+1)).length (a0i (a14 b seen (k+1)))):=hid (by rw[HE.out,a2f,aol,aoG,<-HNL.out];exact hown');have HB3:=hid ((a0q hbel.out nq).grown hgrow (by show w2.heap.size<=wr.heap.size;exact hwz) (fun j e=>(HO2.out.lt j e).1));clear hown' hgrow;go_wp2;go_roundw
   case rel=>exact⟨k+1,om,by go_num,HO3,HB3⟩
   case measure=>simp[intOf];omega
  have e:k=4:=om;subst e;have HC4:Hid (wr.ownsRow w2.heap.size 43 4 u5 (a3N b seen).length (a0i (a3N b seen))):=hid (by have h9:=hown.out;rw[aai]at h9;exact h9);have HLB:Hid ((a3N b seen).length<=240):=hid (by have h9:=a86 b seen HL.out 4 (aof _);rw[aai]at h9;exact h9);have hwz:=hbel.out.size;by_cases h0:0<(a3N b seen).length
  ·obtain⟨so,sc,rfl⟩:=a5l HC4.out;obtain⟨cl,hcl⟩:∃cl,cl=(a3N b seen).length:=⟨_,rfl⟩
   have HCLN:=hid hcl;have SRT:=hid (akP w2.heap.size _ (a3N b seen) wr h0 (by have:=HLB.out;omega) hwz HC4.out);rw[<-hcl]at SRT h0;rw[<-hcl];clear hcl;go_wp2_with fail
   refine SRT.out.mono ?_;rintro e w3 ⟨rfl,l',hp,hsrt,ho3,hb3⟩;have HE:Hid (l'=a2v b seen):=hid (aiH HOK.out seen hp hsrt);have HO3:=hid ho3;have HB3:=hid (HB2.out.trans ((hbel.out.trans hb3).mono HB2.out.size));have HPL:=hid hp.length_eq;clear hp hsrt ho3 hb3;go_wp2;go_ret;refine⟨_,rfl,?_,fun j hj=>?_,HB3.out⟩
   ·have h9:=HO3.out;rw[HE.out]at h9;unfold ListAt;have h10:=HPL.out;rw[HE.out]at h10;rw[h10];exact a2l h9 (aot _)
   have:=(HO3.out.lt j hj).1;omega
  have hz9:a3N b seen=[]:=aoz.1 om;have HS9:Hid (a2v b seen=[]):=hid (by unfold a2v;rw[hz9];rfl);have HC5:Hid (wr.ownsRow w2.heap.size 43 4 u5 0 []):=hid (by have h9:=HC4.out;rw[hz9]at h9;exact h9);clear h0 hz9;obtain⟨so,sc,rfl⟩:=own_shape HC5.out;go_wp2_with fail
  refine(AnyF.slices_SortFunc_none {Tryz.sortE with} so sc _ wr).mono ?_
  rintro e w3 ⟨rfl,rfl⟩;go_wp2;go_ret;refine⟨_,rfl,?_,fun j hj=>?_,HB2.out.trans (hbel.out.mono HB2.out.size)⟩
  ·rw[HS9.out];exact a2l HC5.out (aot _)
  have:=(HC5.out.lt j hj).1;omega
end Go.Proofs.YtdfkaijeppdhaaaGreatDoor
namespace Go.Proofs.YtdfkaijeppdhaaaGreatDoor
open Lib (hid)
open Proofs.Tryz Go.RowKit Go.Shelf
theorem agE{w:World}{base g cap n m:Nat}{e:TypeId}{size:Nat}{xs ys:List Value}(h:w.ownsRow base e size (.slice (some ⟨g,0,none⟩) (n+m) cap) (n+m) (xs++ys))(hx:xs.length=n * size):w.ownsRow base e size (.slice (some ⟨g,0,none⟩) n cap) n xs:=by
 rcases h.2 with⟨h0,_⟩|⟨g',cap',cur,hv,hb,hg,hc,hm,hcs,htk⟩
 ·cases h0
 simp only[Value.slice.injEq,Option.some.injEq,Addr.mk.injEq,and_true,true_and]at hv;obtain⟨rfl,rfl⟩:=hv;refine⟨hx,.inr ⟨g,cap,cur,rfl,hb,hg,om,hm,hcs,?_⟩⟩;have:=congrArg (List.take (n * size)) htk;rw[List.take_take,Nat.min_eq_left (apC _ om),<-hx,List.take_left]at this;rw[<-hx];exact this
structure AppKeeps(v:Value)(l:List Ent)(e:Ent)(W:World)(v':Value)(W':World):Prop where
 new:ListAt W' v' (l++[e])
 old:ListAt W' v l
 grown:W.grownBy W' v.ownBlock
 own:v'.ownBlock=v.ownBlock\/∃g,v'.ownBlock=some g/\W.heap.size<=g
 is:∃g cap,v'= .slice (some ⟨g,0,none⟩) (l.length+1) cap
theorem a5A{W:World}{v:Value}{l:List Ent}(h:ListAt W v l)(hl:l.length<=1000)(e:Ent)(ty:TypeId)(ad:Addr)(hnews:∀j u,(a0i [e])[j]? =some u->W.cell? (ad.add j)=some u):
  ∃v' W',(Builtin.append_ #[40,40] ty #[v,.slice (some ad) 1 1]).run prog W= .ok v' W'/\AppKeeps v l e W v' W':=by
 obtain⟨i0,hi0,hz0,hz1,hz2⟩:=info_parts Tryz.infoEnt;have hone:=a3s [e];have hnl:(a0i [e]).length=1 * 4:=by rw[a18];rfl
 rcases h.2 with⟨rfl,h0⟩|⟨g,cap,cur,rfl,_,hg,hc,hm,hcs,htk⟩
 ·have hln:l=[]:=aoz.1 h0;subst hln;obtain⟨v',W',hrun,hown,hgr,_⟩:=run_append_own (P:=prog) W W.heap.size 40 ty 43 i0 _ 4 40 underlying40 hi0 hz0 hz1 hz2 rfl ox (.slice none 0 0) 0 [] (World.ownsRow_nil _ _ _ _) ad 1 1 (a0i [e]) hnl hnews hone (by unfold maxLen;omega) om (aof _);rcases hown.2 with⟨_,h1⟩|⟨g,cap,cur,hv',hb,_⟩
  ·omega
  exact⟨v',W',hrun,a2l hown (aot _),a2W _,hgr,.inr ⟨g,by rw[hv'];rfl,hb⟩,g,cap,hv'⟩
 by_cases hroom:l.length+1<=cap
 ·obtain⟨v',W',hrun,hown,hgr,_⟩:=run_append_own (P:=prog) W 0 40 ty 43 i0 _ 4 40 underlying40 hi0 hz0 hz1 hz2 rfl ox _ _ _ h ad 1 1 (a0i [e]) hnl hnews hone (by unfold maxLen;omega) om (aot _)
  have hrun2:=run_append_room_cells (P:=prog) W 40 ty 43 i0 underlying40 hi0 g 0 l.length cap ad 1 1 (a0i [e]) (by rw[hz1];exact hnl) hnews hone hroom (fun j hj=>by
   rw[hnl]at hj;rw[hz1];simp only[World.cell?,hg];rw[aoD om];rfl) (fun j hj=>by simp[World.frozen?,hg])
  rw[hrun]at hrun2;have hv':v'= .slice (some ⟨g,0,none⟩) (l.length+1) cap:=by injection hrun2
  subst hv'
  have hnew:ListAt W' (.slice (some ⟨g,0,none⟩) (l.length+1) cap) (l++[e]):=by
   unfold ListAt;rw[a2f,aol];exact hown
  exact⟨_,W',hrun,hnew,agE hown h.1,hgr,.inl rfl,g,cap,rfl⟩
 obtain⟨v',W',hrun,hown,hgr⟩:=run_append_arg_grows (P:=prog) W 40 ty 43 i0 _ 4 40 underlying40 hi0 hz0 hz1 hz2 rfl ox ⟨g,0,none⟩ l.length cap (a0i l) h.1 (fun j u hj=>by
  have hjl:=(api.1 hj).1
  rw[h.1]at hjl;rw[Addr.add_lit,h.cellAt (0+j) om,ap5,hj]) ad 1 1 (a0i [e]) hnl hnews om (by unfold maxLen;omega) om
 have hlt:g<W.heap.size:=(aog.1 hg).1
 have hnew:ListAt W' v' (l++[e]):=by
  unfold ListAt;rw[a2f,aol];exact a2l hown (aot _)
 rcases hown.2 with⟨_,h1⟩|⟨g',cap',cur',hv',hb,_⟩
 ·omega
 exact⟨v',W',hrun,hnew,ListAt.keep h (fun k hk=>by
  have hkg:k=g:=by simpa [Value.ownBlock]using hk.symm
  subst hkg;exact hgr.block k hlt oz),⟨hgr.os,hgr.tape,hgr.output,hgr.size,fun k hk _=>hgr.block k hk oz⟩,.inr ⟨g',by rw[hv'];rfl,hb⟩,g',cap',hv'⟩
theorem a0F{P:Program}{ops:Array Oper}{o:Oper}{a:Act}{w:World}{K:Act->World->Prop}{Q:Exit->Act->World->Prop}{E:Prop}(hg:o.guard=none)(s x:Operand)(t:TypeId)
  (hop:o.op=Op.call {callee:=Callee.builtin Builtin.append,args:=#[s,x],argTypes:=#[t,t]})(sv xv:Value)(hs:a.eval s=sv)(hx:a.eval x=xv)(R:Value->World->Prop)
  (hrun:∃v' w',(Builtin.append_ #[t,t] o.type #[sv,xv]).run P w= .ok v' w'/\R v' w')(hK:∀v' w',R v' w'->K (a.put o.dst v') w'):
  if Region.wanted o (yielded ops a.tmps)=true then Oper.wp P o a w K Q else E:=by
 have hw:Region.wanted o (yielded ops a.tmps)=true:=by simp[Region.wanted,hg]
 rw[if_pos hw];obtain⟨v',w',hr,hR⟩:=hrun;unfold Oper.wp;simp[execOp,hop,resolve,invoke,builtin,hs,hx,hr,Result.andThen];exact hK v' w' hR
theorem a4f(K:Nat)(F:List Nat)(b:a00)(w:World)(h:BookAt w K F b)(hok:a02 b):
  Calls prog 57 #[.pointer (some ⟨K,0,none⟩)] w (a3t (a06 b) w):=by
 have S:=hid (ac6 K F b 0 0 0 0 (fun _=>0) ⟨rfl,rfl,rfl,rfl⟩ w h (fun i hi=>(hok i hi).len) hok);unfold a06;clear h hok;go_enter func57,ntmps57;go_wp2_with fail
 refine S.out.mono ?_;rintro e w' ⟨v,rfl,h1,h2,h3⟩;go_wp2;go_ret;exact⟨v,rfl,h1,h2,h3⟩
end Go.Proofs.YtdfkaijeppdhaaaGreatDoor
namespace Go.Proofs.YtdfkaijeppdhaaaGreatDoor
open Lib (hid)
open Proofs.Tryz Go.RowKit Go.Shelf
theorem ac7{P:Program}{c:Code}{Q:Exit->Act->World->Prop}{a:Act}{w0:World}{n1 n2:Nat}(h:∀W,Below w0.heap.size w0 W->Code.wp P c Q a W):Code.wp P c Q a ((w0.drewN n1).drewN n2):=h _ (a0q (a0q (aoi _ _) _) _)
structure BookIs(w:World)(K:Nat)(vs:Nat->Value)(b:a00):Prop where
 cells:w.heap[K]? =some (.cells #[vs 0,vs 1,vs 2,vs 3] 96 (0,0))
 list:∀i,i<4->ListAt w (vs i) (b i)
 apart:∀i j,i<4->j<4->i≠j->∀g,(vs i).ownBlock=some g->(vs j).ownBlock≠some g
def a1m(vs:Nat->Value)(p:Nat)(v:Value):Nat->Value:=fun i=>if i=p then v else vs i
theorem a0D(vs:Nat->Value)(p:Nat)(v:Value):a1m vs p v p=v:=by simp[a1m]
theorem a0m(vs:Nat->Value){p i:Nat}(v:Value)(h:i≠p):a1m vs p v i=vs i:=by simp[a1m,h]
theorem BookIs.cell{w:World}{K:Nat}{vs:Nat->Value}{b:a00}(h:BookIs w K vs b){i:Nat}(hi:i<4):w.cell? ⟨K,i,none⟩=some (vs i):=by
 rcases (show i=0\/i=1\/i=2\/i=3 by omega)with rfl|rfl|rfl|rfl<;>exact heap_cell h.cells rfl
structure Added(K p:Nat)(vs:Nat->Value)(b:a00)(e:Ent)(w:World)(v':Value)(w':World):Prop where
 cells:w'.heap[K]? =some (.cells #[a1m vs p v' 0,a1m vs p v' 1,a1m vs p v' 2,a1m vs p v' 3] 96 (0,0))
 new:ListAt w' v' (b p++[e])
 old:∀i,i<4->ListAt w' (vs i) (b i)
 block:∀k,k<w.heap.size->k≠K->(vs p).ownBlock≠some k->w'.heap[k]? =w.heap[k]?
 own:v'.ownBlock=(vs p).ownBlock\/∃g,v'.ownBlock=some g/\w.heap.size<=g
 os:w'.os=w.os
 tape:w'.tape=w.tape
 output:w'.output=w.output
 size:w.heap.size<=w'.heap.size
def a4y(K:Nat)(vs:Nat->Value)(b:a00)(e:Ent)(w:World)(en:Ending)(w':World):Prop:=en= .returned (.bool true)/\∃v',Added K (a07 e).toNat vs b e w v' w'
def ade(w:World)(en:Ending)(w':World):Prop:=en= .returned (.bool false)/\Below w.heap.size w w'
theorem amv(w:World)(e:Ent):(w.alloc (.cells #[.int .i64 (a07 e),.int .i64 (a0r e),.int .i64 (a0a e),.string (a0b e)] 43)).heap[w.heap.size]? =some (.cells #[.int .i64 (a07 e),.int .i64 (a0r e),.int .i64 (a0a e),.string (a0b e)] 43 (0,0)):=World.alloc_heap_new w _
theorem a9w(K:Nat)(e:Ent)(hno:betw 0 (a07 e) 3=false\/betw 1 (a0a e) 1000000=false\/a0n (a0b e)=false)(w:World):
  Calls prog 55 #[.pointer (some ⟨K,0,none⟩),a3j e] w (ade w):=by
 unfold a3j;obtain⟨w2,hw2⟩:∃w2,w2=w.alloc (.cells #[.int .i64 (a07 e),.int .i64 (a0r e),.int .i64 (a0a e),.string (a0b e)] 43):=⟨_,rfl⟩
 have HE2:Hid (w2.heap[w.heap.size]? =some (.cells #[.int .i64 (a07 e),.int .i64 (a0r e),.int .i64 (a0a e),.string (a0b e)] 43 (0,0))):=hid (by rw[hw2];exact amv w e);have HB2:Hid (Below w.heap.size w w2):=hid (by rw[hw2];exact(aoi _ w).alloc (aof _) _);have HW2:=hid hw2;clear hw2;have e0:=heap_cell (j:=0) HE2.out rfl;have e1:=heap_cell (j:=1) HE2.out rfl;have e2:=heap_cell (j:=2) HE2.out rfl;have e3:=heap_cell (j:=3) HE2.out rfl;have HB1:=hid (between_any 0 (a07 e) 3 w2);have HC1:=hid (between_any 1 (a0a e) 1000000 w2);have LC:=hid (fun W=>a3H (a0b e) W);obtain⟨q1,hq1⟩:∃q,q=betw 0 (a07 e) 3:=⟨_,rfl⟩
 obtain⟨q2,hq2⟩:∃q,q=betw 1 (a0a e) 1000000:=⟨_,rfl⟩
 obtain⟨q3,hq3⟩:∃q,q=a0n (a0b e):=⟨_,rfl⟩
 rw[<-hq1]at HB1 hno;rw[<-hq2]at HC1 hno;rw[<-hq3]at LC hno;clear hq1 hq2 hq3;cases q1 with
 |false=>
  clear hno;go_enter func55,ntmps55;go_wp2_with fail
  rw[<-HW2.out];go_wp2_with fail
  refine HB1.out.mono ?_;rintro en w3 ⟨rfl,rfl⟩;go_wp2;go_ret;exact⟨rfl,HB2.out⟩
 | true=>
  cases q2 with
  |false=>
   clear hno;go_enter func55,ntmps55;go_wp2_with fail
   rw[<-HW2.out];go_wp2_with fail
   refine HB1.out.mono ?_;rintro en w3 ⟨rfl,rfl⟩;go_wp2_with fail
   refine HC1.out.mono ?_;rintro en w3 ⟨rfl,rfl⟩;go_wp2;go_ret;exact⟨rfl,HB2.out⟩
  | true=>
   have hq:q3=false:=by
    rcases hno with h|h|h
    ·cases h
    ·cases h
    exact h
   subst hq;clear hno;go_enter func55,ntmps55;go_wp2_with fail
   rw[<-HW2.out];go_wp2_with fail
   refine HB1.out.mono ?_;rintro en w3 ⟨rfl,rfl⟩;go_wp2_with fail
   refine HC1.out.mono ?_;rintro en w3 ⟨rfl,rfl⟩;go_wp2_with fail
   refine(LC.out w2).mono ?_
   rintro en w3 ⟨rfl,hb3⟩;have e30:=keep_cell hb3 e0;have e31:=keep_cell hb3 e1;have e32:=keep_cell hb3 e2;have e33:=keep_cell hb3 e3;have HB3:=hid (HB2.out.trans (hb3.mono HB2.out.size));have HX3:=hid hb3;clear hb3;go_wp2;go_ret;exact⟨rfl,HB3.out⟩
theorem a0K{W:World}{K:Nat}{a b c d:Value}{t:TypeId}(h:W.heap[K]? =some (.cells #[a,b,c,d] t (0,0)))(i:Nat)(v:Value):(W.setCell ⟨K,i,none⟩ v).heap[K]? =some (.cells (#[a,b,c,d].setIfInBounds i v) t (0,0)):=by
 obtain⟨hlt,hk⟩:=aog.1 h;show (W.heap.modify K _)[K]? =_;rw[aoD (by rw[apm];exact hlt),ap0,hk];simp
theorem ac8{K p:Nat}{vs:Nat->Value}{b:a00}{e:Ent}{w W5 W6 W7:World}{v':Value}(hp:p<4)(hb5:Below w.heap.size w W5)(hx6:Below W5.heap.size W5 W6)
  (hK:W5.heap[K]? =some (.cells #[vs 0,vs 1,vs 2,vs 3] 96 (0,0)))(hL:∀i,i<4->ListAt W5 (vs i) (b i))(hne:∀i,i<4->∀g,(vs i).ownBlock=some g->g≠K)
  (hap:∀i j,i<4->j<4->i≠j->∀g,(vs i).ownBlock=some g->(vs j).ownBlock≠some g)(hR:AppKeeps (vs p) (b p) e W6 v' W7):Added K p vs b e w v' (W7.setCell ⟨K,p,none⟩ v'):=by
 have hKlt:=(aog.1 hK).1
 have h56:=hx6.size;have h67:=hR.grown.size;have hs5:=hb5.size;have hK7:W7.heap[K]? =some (.cells #[vs 0,vs 1,vs 2,vs 3] 96 (0,0)):=(hR.grown.block K om (fun e2=>hne p hp K e2.symm rfl)).trans ((hx6.block K hKlt).trans hK)
 have hset:∀k,k≠K->(W7.setCell ⟨K,p,none⟩ v').heap[k]? =W7.heap[k]? :=fun k hk=>aok _ _ _ k hk
 have hgk:∀g,v'.ownBlock=some g->g≠K:=fun g hg=>by
  rcases hR.own with h|⟨g',h,h2⟩
  ·rw[h]at hg;exact hne p hp g hg
  rw[h]at hg;injection hg with hg;omega
 refine⟨?_,hR.new.keep fun k hk=>hset k (hgk k hk),fun i hi=>?_,fun k hk h1 h2=>?_,?_,?_,?_,?_,?_⟩
 ·rw[a0K hK7];congr 1;unfold a1m;rcases (show p=0\/p=1\/p=2\/p=3 by omega)with rfl|rfl|rfl|rfl<;>simp
 ·by_cases hip:i=p
  ·subst hip;exact hR.old.keep fun k hk=>hset k (hne i hi k hk)
  refine(hL i hi).keep fun k hk=>?_
  have hklt:=(hL i hi).lt hk
  exact(hset k (hne i hi k hk)).trans ((hR.grown.block k om (fun e2=>hap i p hi hp hip k hk e2.symm)).trans (hx6.block k hklt))
 ·exact(hset k h1).trans ((hR.grown.block k om (fun e2=>h2 e2.symm)).trans ((hx6.block k om).trans (hb5.block k hk)))
 ·rcases hR.own with h|⟨g',h,h2⟩
  ·exact .inl h
  exact .inr ⟨g',h,om⟩
 ·exact hR.grown.os.trans (hx6.os.trans hb5.os)
 ·exact hR.grown.tape.trans (hx6.tape.trans hb5.tape)
 ·exact hR.grown.output.trans (hx6.output.trans hb5.output)
 rw[aos];omega
theorem BookIs.slice{w:World}{K:Nat}{vs:Nat->Value}{b:a00}(h:BookIs w K vs b){p:Nat}(hp:p<4):∃a cap,vs p= .slice a (b p).length cap:=own_shape (h.list p hp)
theorem aaj(K:Nat)(vs:Nat->Value)(b:a00)(p:Nat)(hp:p<4)(num cnt:Int)(line:ByteArray)(hcnt:1<=cnt/\cnt<=1000000)(hline:a0n line=true)(w:World)(h:BookIs w K vs b)(hlen:(b p).length<=60)
  (hno:num≠((b p).length:Int)+1\/(b p).length=60):
  Calls prog 55 #[.pointer (some ⟨K,0,none⟩),a3j ((p:Int),num,cnt,line)] w (ade w):=by
 unfold a3j;obtain⟨w2,hw2⟩:∃w2,w2=w.alloc (.cells #[.int .i64 (p:Int),.int .i64 num,.int .i64 cnt,.string line] 43):=⟨_,rfl⟩
 have HE2:Hid (w2.heap[w.heap.size]? =some (.cells #[.int .i64 (p:Int),.int .i64 num,.int .i64 cnt,.string line] 43 (0,0))):=hid (by rw[hw2];exact World.alloc_heap_new w _);have HB2:Hid (Below w.heap.size w w2):=hid (by rw[hw2];exact(aoi _ w).alloc (aof _) _);have HW2:=hid hw2;clear hw2;have e0:=heap_cell (j:=0) HE2.out rfl;have e1:=heap_cell (j:=1) HE2.out rfl;have e2:=heap_cell (j:=2) HE2.out rfl;have e3:=heap_cell (j:=3) HE2.out rfl;have HB1:=hid (between_any 0 (p:Int) 3 w2);have HC1:=hid (between_any 1 cnt 1000000 w2);have LC:=hid (fun W=>a3H line W);rw[(betw_iff 0 (p:Int) 3).2 ⟨om,om⟩]at HB1;rw[(betw_iff 1 cnt 1000000).2 hcnt]at HC1;rw[hline]at LC;have hp1:(0:Int)<=(p:Int):=om;have hp2:(p:Int)<4:=om;have HK:=hid h;have hlen60:=hlen;obtain⟨a,cap,hvp⟩:=HK.out.slice hp;obtain⟨n,hn⟩:∃n,n=(b p).length:=⟨_,rfl⟩
 rw[<-hn]at hvp hlen60 hno;have hw1:IntKind.i64.wrap ((n:Int)+1)=(n:Int)+1:=IntWalk.i64_in _ om;clear hn hlen h hcnt hline;by_cases h1:num=(n:Int)+1
 ·have h2:n=60:=by rcases hno with h3|h3<;>omega
  have z1:((n:Int)==60)=true:=by simp;omega
  subst h1;clear hno h2;go_enter func55,ntmps55;go_wp2_with fail
  simp only[a07,a0r,a0a,a0b];rw[<-HW2.out];go_wp2_with fail
  refine HB1.out.mono ?_;rintro en w3 ⟨rfl,rfl⟩;go_wp2_with fail
  refine HC1.out.mono ?_;rintro en w3 ⟨rfl,rfl⟩;go_wp2_with fail
  refine(LC.out w2).mono ?_
  rintro en w3 ⟨rfl,hb3⟩;have e30:=keep_cell hb3 e0;have e31:=keep_cell hb3 e1;have e32:=keep_cell hb3 e2;have e33:=keep_cell hb3 e3;have HB3:=hid (HB2.out.trans (hb3.mono HB2.out.size));have HX3:=hid hb3;clear hb3;have ck:=keep_cell HB3.out (HK.out.cell hp);rw[hvp]at ck;go_wp2;go_quiet (fail)
  go_wp2;go_quiet (fail)
  go_wp2;go_ret;exact⟨rfl,a0q (a0q HB3.out _) _⟩
 have z0:(num != (n:Int)+1)=true:=by simpa using h1
 clear hno h1;go_enter func55,ntmps55;go_wp2_with fail
 simp only[a07,a0r,a0a,a0b];rw[<-HW2.out];go_wp2_with fail
 refine HB1.out.mono ?_;rintro en w3 ⟨rfl,rfl⟩;go_wp2_with fail
 refine HC1.out.mono ?_;rintro en w3 ⟨rfl,rfl⟩;go_wp2_with fail
 refine(LC.out w2).mono ?_
 rintro en w3 ⟨rfl,hb3⟩;have e30:=keep_cell hb3 e0;have e31:=keep_cell hb3 e1;have e32:=keep_cell hb3 e2;have e33:=keep_cell hb3 e3;have HB3:=hid (HB2.out.trans (hb3.mono HB2.out.size));have HX3:=hid hb3;clear hb3;have ck:=keep_cell HB3.out (HK.out.cell hp);rw[hvp]at ck;go_wp2;go_quiet (fail)
 go_wp2;go_quiet (fail)
 go_wp2;go_ret;exact⟨rfl,a0q (a0q HB3.out _) _⟩
theorem a71{l:List Ent}(h:0<l.length):a0o l=a0a (l.getD (l.length-1) noE):=by
 unfold a0o;rw[List.getLast?_eq_getElem?,aoh,aoj om];rfl
theorem aiJ(K:Nat)(vs:Nat->Value)(b:a00)(p:Nat)(hp:p<4)(cnt:Int)(line:ByteArray)(hcnt:1<=cnt/\cnt<=1000000)(hline:a0n line=true)(w:World)(h:BookIs w K vs b)(hlen:(b p).length<60)
  (h0:0<(b p).length)(hno:cnt<=a0o (b p)):
  Calls prog 55 #[.pointer (some ⟨K,0,none⟩),a3j ((p:Int),((b p).length:Int)+1,cnt,line)] w (ade w):=by
 obtain⟨num,hnum⟩:∃num:Int,num=((b p).length:Int)+1:=⟨_,rfl⟩
 rw[<-hnum];unfold a3j;obtain⟨w2,hw2⟩:∃w2,w2=w.alloc (.cells #[.int .i64 (p:Int),.int .i64 num,.int .i64 cnt,.string line] 43):=⟨_,rfl⟩
 have HE2:Hid (w2.heap[w.heap.size]? =some (.cells #[.int .i64 (p:Int),.int .i64 num,.int .i64 cnt,.string line] 43 (0,0))):=hid (by rw[hw2];exact World.alloc_heap_new w _);have HB2:Hid (Below w.heap.size w w2):=hid (by rw[hw2];exact(aoi _ w).alloc (aof _) _);have HW2:=hid hw2;clear hw2;have e0:=heap_cell (j:=0) HE2.out rfl;have e1:=heap_cell (j:=1) HE2.out rfl;have e2:=heap_cell (j:=2) HE2.out rfl;have e3:=heap_cell (j:=3) HE2.out rfl;have HB1:=hid (between_any 0 (p:Int) 3 w2);have HC1:=hid (between_any 1 cnt 1000000 w2);have LC:=hid (fun W=>a3H line W);rw[(betw_iff 0 (p:Int) 3).2 ⟨om,om⟩]at HB1;rw[(betw_iff 1 cnt 1000000).2 hcnt]at HC1;rw[hline]at LC;have hp1:(0:Int)<=(p:Int):=om;have hp2:(p:Int)<4:=om;have HK:=hid h;have hlen60:=hlen;obtain⟨bk,off,cap,hvp,hcs⟩:=((HK.out.list p hp).ents om).cells h0
 have hlast:=(hcs ((b p).length-1) om).2.2.1
 have hlc:a0o (b p)=a0a ((b p).getD ((b p).length-1) (0,0,0,⟨#[]⟩)):=a71 h0;rw[<-hlc]at hlast;clear hcs hlc;generalize a0o (b p)=lc at *;obtain⟨n,hn⟩:∃n,n=(b p).length:=⟨_,rfl⟩
 rw[<-hn]at hvp hlen60 hnum h0 hlast;have hw1:IntKind.i64.wrap ((n:Int)+1)=(n:Int)+1:=IntWalk.i64_in _ om;have hw2:IntKind.i64.wrap ((n:Int)-1)=(n:Int)-1:=IntWalk.i64_in _ om;subst hnum;have z1:((n:Int)==60)=false:=by simp;omega
 have z2:decide ((0:Int)<(n:Int))=true:=by simp;omega
 have z3:decide (cnt<=lc)=true:=by simpa using hno
 have i1:(0:Int)<=(n:Int)-1:=om;have i2:(n:Int)-1<(n:Int):=om;have i3:((n:Int)-1).toNat=n-1:=om
 clear hn hlen h hcnt hline;go_enter func55,ntmps55;go_wp2_with fail
 simp only[a07,a0r,a0a,a0b];rw[<-HW2.out];go_wp2_with fail
 refine HB1.out.mono ?_;rintro en w3 ⟨rfl,rfl⟩;go_wp2_with fail
 refine HC1.out.mono ?_;rintro en w3 ⟨rfl,rfl⟩;go_wp2_with fail
 refine(LC.out w2).mono ?_
 rintro en w3 ⟨rfl,hb3⟩;have e30:=keep_cell hb3 e0;have e31:=keep_cell hb3 e1;have e32:=keep_cell hb3 e2;have e33:=keep_cell hb3 e3;have HB3:=hid (HB2.out.trans (hb3.mono HB2.out.size));have HX3:=hid hb3;clear hb3;have ck:=keep_cell HB3.out (HK.out.cell hp);rw[hvp]at ck;go_wp2;go_quiet (fail)
 go_wp2;have hl3:=keep_cell HB3.out hlast;go_quiet (fail)
 go_wp2;go_ret;exact⟨rfl,a0q (a0q HB3.out _) _⟩
theorem a4Z{w:World}{B:Nat}{c0 c1 c2 c3:Value}{t:TypeId}{e:Ent}(h:w.heap[B]? =some (.cells #[c0,c1,c2,c3] t (0,0)))(hc:a1s e=[c0,c1,c2,c3]):∀j u,(a0i [e])[j]? =some u->w.cell? ((⟨B,0,none⟩:Addr).add j)=some u:=by
 intro j u hj;have he:a0i [e]=[c0,c1,c2,c3]:=by unfold a0i;simp[hc]
 rw[he]at hj;rw[Addr.add_lit,ap5];exact heap_cell h (by simpa using hj)
theorem akR(K:Nat)(vs:Nat->Value)(b:a00)(p:Nat)(hp:p<4)(cnt:Int)(line:ByteArray)(hcnt:1<=cnt/\cnt<=1000000)(hline:a0n line=true)(w:World)(h:BookIs w K vs b)(hlen:(b p).length<60)
  (h0:0<(b p).length)(hyes:a0o (b p)<cnt):
  Calls prog 55 #[.pointer (some ⟨K,0,none⟩),a3j ((p:Int),((b p).length:Int)+1,cnt,line)] w (a4y K vs b ((p:Int),((b p).length:Int)+1,cnt,line) w):=by
 obtain⟨num,hnum⟩:∃num:Int,num=((b p).length:Int)+1:=⟨_,rfl⟩
 rw[<-hnum];obtain⟨en0,hen0⟩:∃en0:Ent,en0=((p:Int),num,cnt,line):=⟨_,rfl⟩
 have HEN:=hid hen0;rw[show a4y K vs b ((p:Int),num,cnt,line) w=a4y K vs b en0 w by rw[hen0]];clear hen0;unfold a3j;obtain⟨w2,hw2⟩:∃w2,w2=w.alloc (.cells #[.int .i64 (p:Int),.int .i64 num,.int .i64 cnt,.string line] 43):=⟨_,rfl⟩
 have HE2:Hid (w2.heap[w.heap.size]? =some (.cells #[.int .i64 (p:Int),.int .i64 num,.int .i64 cnt,.string line] 43 (0,0))):=hid (by rw[hw2];exact World.alloc_heap_new w _);have HB2:Hid (Below w.heap.size w w2):=hid (by rw[hw2];exact(aoi _ w).alloc (aof _) _);have HW2:=hid hw2;clear hw2;have e0:=heap_cell (j:=0) HE2.out rfl;have e1:=heap_cell (j:=1) HE2.out rfl;have e2:=heap_cell (j:=2) HE2.out rfl;have e3:=heap_cell (j:=3) HE2.out rfl;have HB1:=hid (between_any 0 (p:Int) 3 w2);have HC1:=hid (between_any 1 cnt 1000000 w2);have LC:=hid (fun W=>a3H line W);rw[(betw_iff 0 (p:Int) 3).2 ⟨om,om⟩]at HB1;rw[(betw_iff 1 cnt 1000000).2 hcnt]at HC1;rw[hline]at LC;have hp1:(0:Int)<=(p:Int):=om;have hp2:(p:Int)<4:=om;have HK:=hid h;have hlen60:=hlen;obtain⟨bk,off,cap,hvp,hcs⟩:=((HK.out.list p hp).ents om).cells h0
 have hlast:=(hcs ((b p).length-1) om).2.2.1
 have hlc:a0o (b p)=a0a ((b p).getD ((b p).length-1) (0,0,0,⟨#[]⟩)):=a71 h0;rw[<-hlc]at hlast;clear hcs hlc;generalize a0o (b p)=lc at *;obtain⟨n,hn⟩:∃n,n=(b p).length:=⟨_,rfl⟩
 have HN:=hid hn;rw[<-hn]at hvp hlen60 hnum h0 hlast;have HVP:=hid hvp;have hw1:IntKind.i64.wrap ((n:Int)+1)=(n:Int)+1:=IntWalk.i64_in _ om;have hw2:IntKind.i64.wrap ((n:Int)-1)=(n:Int)-1:=IntWalk.i64_in _ om;subst hnum;have z1:((n:Int)==60)=false:=by simp;omega
 have z2:decide ((0:Int)<(n:Int))=true:=by simp;omega
 have z3:decide (cnt<=lc)=false:=by simpa using hyes
 have i1:(0:Int)<=(n:Int)-1:=om;have i2:(n:Int)-1<(n:Int):=om;have i3:((n:Int)-1).toNat=n-1:=om
 clear hn hlen h hcnt hline hyes;go_enter func55,ntmps55;go_wp2_with fail
 simp only[a07,a0r,a0a,a0b];rw[<-HW2.out];go_wp2_with fail
 refine HB1.out.mono ?_;rintro en w3 ⟨rfl,rfl⟩;go_wp2_with fail
 refine HC1.out.mono ?_;rintro en w3 ⟨rfl,rfl⟩;go_wp2_with fail
 refine(LC.out w2).mono ?_
 rintro en w3 ⟨rfl,hb3⟩;have e30:=keep_cell hb3 e0;have e31:=keep_cell hb3 e1;have e32:=keep_cell hb3 e2;have e33:=keep_cell hb3 e3;have HB3:=hid (HB2.out.trans (hb3.mono HB2.out.size));have HX3:=hid hb3;clear hb3;have ck:=keep_cell HB3.out (HK.out.cell hp);rw[hvp]at ck;go_wp2;go_quiet (fail)
 go_wp2;have hl3:=keep_cell HB3.out hlast;go_quiet (fail)
 go_wp2;refine ac7 (fun W5 hX5=>?_);have HX5:=hid hX5;clear hX5;have HB5:Hid (Below w.heap.size w W5):=hid (HB3.out.trans (HX5.out.mono HB3.out.size));have HKK:=hid ((HB5.out.block K (aog.1 HK.out.cells).1).trans HK.out.cells);have HEB:=hid ((HX5.out.block w.heap.size (by have:=(aog.1 HE2.out).1;have:=HX3.out.size;omega)).trans ((HX3.out.block _ (aog.1 HE2.out).1).trans HE2.out));have HLP:Hid (ListAt W5 (.slice (some ⟨bk,off,none⟩) n cap) (b p)):=hid (by rw[<-HVP.out];exact(HK.out.list p hp).keep fun k hk=>HB5.out.block k ((HK.out.list p hp).lt hk));have HLL:Hid (∀i,i<4->ListAt W5 (vs i) (b i)):=hid fun i hi=>(HK.out.list i hi).keep fun k hk=>HB5.out.block k ((HK.out.list i hi).lt hk)
 have HNE:Hid (∀i,i<4->∀g,(vs i).ownBlock=some g->g≠K):=hid (fun i hi g hg e=>by
  subst e;rcases (HK.out.list i hi).2 with⟨h1,_⟩|⟨g',cap',cur,h1,_,h2,_⟩
  ·rw[h1]at hg;cases hg
  rw[h1]at hg;have:g'=g:=by simpa [Value.ownBlock]using hg
  subst this;rw[HK.out.cells]at h2;simp at h2)
 have f0:W5.cell? ⟨K,p,none⟩=some (.slice (some ⟨bk,off,none⟩) n cap):=by rw[<-HVP.out];exact keep_cell HB5.out (HK.out.cell hp)
 have f1:=heap_cell (j:=0) HEB.out rfl;have f2:=heap_cell (j:=1) HEB.out rfl;have f3:=heap_cell (j:=2) HEB.out rfl;have f4:=heap_cell (j:=3) HEB.out rfl;clear ck e0 e1 e2 e3 e30 e31 e32 e33 hvp;obtain⟨W6,hW6⟩:∃W6,W6=(W5.alloc (.cells #[.int .i64 (p:Int),.int .i64 ((n:Int)+1),.int .i64 cnt,.string line] 43)).drew:=⟨_,rfl⟩
 have HX6:Hid (Below W5.heap.size W5 W6):=hid (by rw[hW6];exact((aoi _ _).alloc (aof _) _).drew);have HNW:Hid (W6.heap[W5.heap.size]? =some (.cells #[.int .i64 (p:Int),.int .i64 ((n:Int)+1),.int .i64 cnt,.string line] 43 (0,0))):=hid (by rw[hW6];exact World.alloc_heap_new W5 _);have HLP6:Hid (ListAt W6 (.slice (some ⟨bk,off,none⟩) n cap) (b p)):=hid (HLP.out.keep fun k hk=>HX6.out.block k (HLP.out.lt hk));have HAP:=hid (fun ty=>a5A HLP6.out (by rw[<-HN.out];omega) en0 ty ⟨W5.heap.size,0,none⟩ (a4Z HNW.out (by rw[HEN.out];rfl)));have HW6:=hid hW6;have HKLT:=hid ((aog.1 HKK.out).1);have HNK:=hid (HNE.out p hp);have HLT:=hid (fun g (hg:(vs p).ownBlock=some g)=>(HK.out.list p hp).lt hg);have HBLT:=hid ((aog.1 HEB.out).1);rw[HVP.out]at HLT;rw[HVP.out]at HNK;have f0a:(W5.alloc (.cells #[.int .i64 (p:Int),.int .i64 ((n:Int)+1),.int .i64 cnt,.string line] 43)).cell? ⟨K,p,none⟩=some (.slice (some ⟨bk,off,none⟩) n cap):=keep_cell ((aoi _ _).alloc (aof _) _) f0
 clear hW6
 go_region_law (first
  |((rw[<-HW6.out];refine a0F oy _ _ _ oy (.slice (some ⟨bk,off,none⟩) n cap) (.slice (some ⟨W5.heap.size,0,none⟩) 1 1) oy oy (AppKeeps (.slice (some ⟨bk,off,none⟩) n cap) (b p) en0 W6) (HAP.out _) ?_;intro v' W7 hR;obtain⟨g',cap',rfl⟩:=hR.is;have HR:=hid hR;have HK7:=hid ((hR.grown.block K (aox HKLT.out HX6.out.size) (fun e=>HNK.out K e.symm rfl)).trans ((HX6.out.block K HKLT.out).trans HKK.out));have c7:W7.cell? ⟨K,p,none⟩=some (.slice (some ⟨bk,off,none⟩) n cap):=(World.cell?_of_block (hR.grown.block K (aox HKLT.out HX6.out.size) (fun e=>HNK.out K e.symm rfl))).trans (keep_cell HX6.out f0);have f7:W7.frozen? ⟨K,p,none⟩=false:=(by have:=HK7.out;simp[World.frozen?,this]);have HE7:=hid ((hR.grown.block w.heap.size (aox HBLT.out HX6.out.size) (fun e=>Nat.lt_irrefl _ (HLT.out _ e.symm))).trans ((HX6.out.block w.heap.size HBLT.out).trans HEB.out));have g1:=heap_cell (j:=0) HE7.out rfl;have g2:=heap_cell (j:=1) HE7.out rfl;have g3:=heap_cell (j:=2) HE7.out rfl;have g4:=heap_cell (j:=3) HE7.out rfl;clear hR))
  |fail)
 all_goals go_wp2
 all_goals go_ret
 all_goals exact⟨rfl,_,by rw[show (a07 en0).toNat=p by rw[HEN.out];exact aoY p];exact ac8 hp HB5.out HX6.out HKK.out HLL.out HNE.out HK.out.apart (by rw[HVP.out];exact HR.out)⟩
theorem aiK(K:Nat)(vs:Nat->Value)(b:a00)(p:Nat)(hp:p<4)(cnt:Int)(line:ByteArray)(hcnt:1<=cnt/\cnt<=1000000)(hline:a0n line=true)(w:World)(h:BookIs w K vs b)(hlen:(b p).length<60)
  (h0:(b p).length=0):
  Calls prog 55 #[.pointer (some ⟨K,0,none⟩),a3j ((p:Int),((b p).length:Int)+1,cnt,line)] w (a4y K vs b ((p:Int),((b p).length:Int)+1,cnt,line) w):=by
 obtain⟨num,hnum⟩:∃num:Int,num=((b p).length:Int)+1:=⟨_,rfl⟩
 rw[<-hnum];obtain⟨en0,hen0⟩:∃en0:Ent,en0=((p:Int),num,cnt,line):=⟨_,rfl⟩
 have HEN:=hid hen0;rw[show a4y K vs b ((p:Int),num,cnt,line) w=a4y K vs b en0 w by rw[hen0]];clear hen0;unfold a3j;obtain⟨w2,hw2⟩:∃w2,w2=w.alloc (.cells #[.int .i64 (p:Int),.int .i64 num,.int .i64 cnt,.string line] 43):=⟨_,rfl⟩
 have HE2:Hid (w2.heap[w.heap.size]? =some (.cells #[.int .i64 (p:Int),.int .i64 num,.int .i64 cnt,.string line] 43 (0,0))):=hid (by rw[hw2];exact World.alloc_heap_new w _);have HB2:Hid (Below w.heap.size w w2):=hid (by rw[hw2];exact(aoi _ w).alloc (aof _) _);have HW2:=hid hw2;clear hw2;have e0:=heap_cell (j:=0) HE2.out rfl;have e1:=heap_cell (j:=1) HE2.out rfl;have e2:=heap_cell (j:=2) HE2.out rfl;have e3:=heap_cell (j:=3) HE2.out rfl;have HB1:=hid (between_any 0 (p:Int) 3 w2);have HC1:=hid (between_any 1 cnt 1000000 w2);have LC:=hid (fun W=>a3H line W);rw[(betw_iff 0 (p:Int) 3).2 ⟨om,om⟩]at HB1;rw[(betw_iff 1 cnt 1000000).2 hcnt]at HC1;rw[hline]at LC;have hp1:(0:Int)<=(p:Int):=om;have hp2:(p:Int)<4:=om;have HK:=hid h;have hlen60:=hlen;obtain⟨a,cap,hvp⟩:=HK.out.slice hp;obtain⟨n,hn⟩:∃n,n=(b p).length:=⟨_,rfl⟩
 have HN:=hid hn;rw[<-hn]at hvp hlen60 hnum h0;have HVP:=hid hvp;have hw1:IntKind.i64.wrap ((n:Int)+1)=(n:Int)+1:=IntWalk.i64_in _ om;subst hnum;have z1:((n:Int)==60)=false:=by simp;omega
 have z2:decide ((0:Int)<(n:Int))=false:=by simp;omega
 have z3:decide (0<n)=false:=by simp;omega
 clear hn hlen h hcnt hline h0;go_enter func55,ntmps55;go_wp2_with fail
 simp only[a07,a0r,a0a,a0b];rw[<-HW2.out];go_wp2_with fail
 refine HB1.out.mono ?_;rintro en w3 ⟨rfl,rfl⟩;go_wp2_with fail
 refine HC1.out.mono ?_;rintro en w3 ⟨rfl,rfl⟩;go_wp2_with fail
 refine(LC.out w2).mono ?_
 rintro en w3 ⟨rfl,hb3⟩;have e30:=keep_cell hb3 e0;have e31:=keep_cell hb3 e1;have e32:=keep_cell hb3 e2;have e33:=keep_cell hb3 e3;have HB3:=hid (HB2.out.trans (hb3.mono HB2.out.size));have HX3:=hid hb3;clear hb3;have ck:=keep_cell HB3.out (HK.out.cell hp);rw[hvp]at ck;go_wp2;go_quiet (fail)
 go_wp2;go_quiet (fail)
 go_wp2;refine ac7 (fun W5 hX5=>?_);have HX5:=hid hX5;clear hX5;have HB5:Hid (Below w.heap.size w W5):=hid (HB3.out.trans (HX5.out.mono HB3.out.size));have HKK:=hid ((HB5.out.block K (aog.1 HK.out.cells).1).trans HK.out.cells);have HEB:=hid ((HX5.out.block w.heap.size (by have:=(aog.1 HE2.out).1;have:=HX3.out.size;omega)).trans ((HX3.out.block _ (aog.1 HE2.out).1).trans HE2.out));have HLP:Hid (ListAt W5 (.slice a n cap) (b p)):=hid (by rw[<-HVP.out];exact(HK.out.list p hp).keep fun k hk=>HB5.out.block k ((HK.out.list p hp).lt hk));have HLL:Hid (∀i,i<4->ListAt W5 (vs i) (b i)):=hid fun i hi=>(HK.out.list i hi).keep fun k hk=>HB5.out.block k ((HK.out.list i hi).lt hk)
 have HNE:Hid (∀i,i<4->∀g,(vs i).ownBlock=some g->g≠K):=hid (fun i hi g hg e=>by
  subst e;rcases (HK.out.list i hi).2 with⟨h1,_⟩|⟨g',cap',cur,h1,_,h2,_⟩
  ·rw[h1]at hg;cases hg
  rw[h1]at hg;have:g'=g:=by simpa [Value.ownBlock]using hg
  subst this;rw[HK.out.cells]at h2;simp at h2)
 have f0:W5.cell? ⟨K,p,none⟩=some (.slice a n cap):=by rw[<-HVP.out];exact keep_cell HB5.out (HK.out.cell hp)
 have f1:=heap_cell (j:=0) HEB.out rfl;have f2:=heap_cell (j:=1) HEB.out rfl;have f3:=heap_cell (j:=2) HEB.out rfl;have f4:=heap_cell (j:=3) HEB.out rfl;clear ck e0 e1 e2 e3 e30 e31 e32 e33 hvp;obtain⟨W6,hW6⟩:∃W6,W6=(W5.alloc (.cells #[.int .i64 (p:Int),.int .i64 ((n:Int)+1),.int .i64 cnt,.string line] 43)).drew:=⟨_,rfl⟩
 have HX6:Hid (Below W5.heap.size W5 W6):=hid (by rw[hW6];exact((aoi _ _).alloc (aof _) _).drew);have HNW:Hid (W6.heap[W5.heap.size]? =some (.cells #[.int .i64 (p:Int),.int .i64 ((n:Int)+1),.int .i64 cnt,.string line] 43 (0,0))):=hid (by rw[hW6];exact World.alloc_heap_new W5 _);have HLP6:Hid (ListAt W6 (.slice a n cap) (b p)):=hid (HLP.out.keep fun k hk=>HX6.out.block k (HLP.out.lt hk));have HAP:=hid (fun ty=>a5A HLP6.out (by rw[<-HN.out];omega) en0 ty ⟨W5.heap.size,0,none⟩ (a4Z HNW.out (by rw[HEN.out];rfl)));have HW6:=hid hW6;have HKLT:=hid ((aog.1 HKK.out).1);have HNK:=hid (HNE.out p hp);have HLT:=hid (fun g (hg:(vs p).ownBlock=some g)=>(HK.out.list p hp).lt hg);have HBLT:=hid ((aog.1 HEB.out).1);rw[HVP.out]at HLT;rw[HVP.out]at HNK;have f0a:(W5.alloc (.cells #[.int .i64 (p:Int),.int .i64 ((n:Int)+1),.int .i64 cnt,.string line] 43)).cell? ⟨K,p,none⟩=some (.slice a n cap):=keep_cell ((aoi _ _).alloc (aof _) _) f0
 clear hW6
 go_region_law (first
  |((rw[<-HW6.out];refine a0F oy _ _ _ oy (.slice a n cap) (.slice (some ⟨W5.heap.size,0,none⟩) 1 1) oy oy (AppKeeps (.slice a n cap) (b p) en0 W6) (HAP.out _) ?_;intro v' W7 hR;obtain⟨g',cap',rfl⟩:=hR.is;have HR:=hid hR;have HK7:=hid ((hR.grown.block K (aox HKLT.out HX6.out.size) (fun e=>HNK.out K e.symm rfl)).trans ((HX6.out.block K HKLT.out).trans HKK.out));have c7:W7.cell? ⟨K,p,none⟩=some (.slice a n cap):=(World.cell?_of_block (hR.grown.block K (aox HKLT.out HX6.out.size) (fun e=>HNK.out K e.symm rfl))).trans (keep_cell HX6.out f0);have f7:W7.frozen? ⟨K,p,none⟩=false:=(by have:=HK7.out;simp[World.frozen?,this]);have HE7:=hid ((hR.grown.block w.heap.size (aox HBLT.out HX6.out.size) (fun e=>Nat.lt_irrefl _ (HLT.out _ e.symm))).trans ((HX6.out.block w.heap.size HBLT.out).trans HEB.out));have g1:=heap_cell (j:=0) HE7.out rfl;have g2:=heap_cell (j:=1) HE7.out rfl;have g3:=heap_cell (j:=2) HE7.out rfl;have g4:=heap_cell (j:=3) HE7.out rfl;clear hR))
  |fail)
 all_goals go_wp2
 all_goals go_ret
 all_goals exact⟨rfl,_,by rw[show (a07 en0).toNat=p by rw[HEN.out];exact aoY p];exact ac8 hp HB5.out HX6.out HKK.out HLL.out HNE.out HK.out.apart (by rw[HVP.out];exact HR.out)⟩
end Go.Proofs.YtdfkaijeppdhaaaGreatDoor
