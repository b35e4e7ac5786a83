/- Part of the proof. -/
import Derived.Test.YtdfkaijeppdhaaaGreatDoorZHs26
set_option maxRecDepth 100000
set_option maxHeartbeats 8000000
set_option linter.unusedSimpArgs false
set_option linter.unusedVariables false

namespace Go.Proofs.YtdfkaijeppdhaaaGreatDoor.Td
open Lib (hid)
open Proofs.Tryz Go.RowKit Go.Shelf
def TabC(B Bc:Nat)(X:World)(v:Value)(d:List (List Int))(c:List Int):Prop:=
 ∃(hds:List Value) (cv:Value),X.ownsRow B 122 1 v (d.length+1) (hds++[cv])/\
  (∀j,j<d.length->X.ownsRow B 3 1 (hds.getD j undef) (d.getD j []).length ((d.getD j []).map (Value.int .i64))/\∀k,(hds.getD j undef).ownBlock=some k->k<Bc)/\
  X.ownsRow Bc 3 1 cv c.length (c.map (Value.int .i64))/\B<=Bc/\Bc<=X.heap.size
def RpI(s:ByteArray)(B:Nat)(w:World)(tv n g i:Value)(wr:World):Prop:=
 ∃(k:Nat) (d:List (List Int)) (c:List Int) (nn gg:Int) (Bc:Nat),i= .int .i64 k/\n= .int .i64 nn/\g= .int .i64 gg/\0<=nn/\nn<=1000/\(gg=1\/gg= -1)/\TabC B Bc wr tv d c/\d.length<=4/\c.length<=12/\(∀l∈d,l.length<=12)/\Below B w wr/\
  ((k<=s.size/\a0I (s.data.toList.drop k) d c nn gg=a0I s.data.toList [] [] 0 1)\/(k=s.size+1/\a0I s.data.toList [] [] 0 1=some (d++[c])))
theorem a5z{w:World}{base:Nat}{e:TypeId}{size:Nat}{v:Value}{n:Nat}{xs:List Value}(h:w.ownsRow base e size v n xs){k:Nat}(hk:v.ownBlock=some k):base<=k/\k<w.heap.size:=by
 rcases h.2 with⟨rfl,_⟩|⟨g,cap,cur,rfl,hg,hgc,_⟩
 ·simp[Value.ownBlock]at hk
 obtain rfl:g=k:=by simpa [Value.ownBlock]using hk
 exact⟨hg,(aog.1 hgc).1⟩
theorem ahO{w w':World}{b b':Nat}{e e':TypeId}{s s':Nat}{v v':Value}{n n':Nat}{xs xs':List Value}(h':w'.ownsRow b' e' s' v' n' xs')(hlow:∀k,v.ownBlock=some k->k<b'):v.ownBlock=none\/v.ownBlock≠v'.ownBlock:=by
 cases hv:v.ownBlock with
 |none=>exact .inl rfl
 |some k=>
  refine .inr fun e=>?_
  have h1:=hlow k hv;have h2:=(a5z h' e.symm).1
  omega
section push
variable{B Bc gb tcap:Nat}{wr w2:World}{d:List (List Int)}{c:List Int}{hds:List Value}{cv v':Value}{tmp:Obj}{m:Int}
theorem a3R(hown:wr.ownsRow B 122 1 (.slice (some ⟨gb,0,none⟩) (d.length+1) tcap) (d.length+1) (hds++[cv]))(hcur:wr.ownsRow Bc 3 1 cv c.length (c.map (Value.int .i64)))
  (hgrow:(wr.alloc tmp).grownBy w2 cv.ownBlock):w2.ownsRow B 122 1 (.slice (some ⟨gb,0,none⟩) (d.length+1) tcap) (d.length+1) (hds++[cv]):=a7o hown hcur ox hgrow
theorem TabC.push(hown:wr.ownsRow B 122 1 (.slice (some ⟨gb,0,none⟩) (d.length+1) tcap) (d.length+1) (hds++[cv]))(hl:hds.length+1=(d.length+1) * 1)
  (holds:∀j,j<d.length->wr.ownsRow B 3 1 (hds.getD j undef) (d.getD j []).length ((d.getD j []).map (Value.int .i64))/\∀k,(hds.getD j undef).ownBlock=some k->k<Bc)
  (hcur:wr.ownsRow Bc 3 1 cv c.length (c.map (Value.int .i64)))(hB:B<=Bc)(hBc:Bc<=wr.heap.size)(hgrow:(wr.alloc tmp).grownBy w2 cv.ownBlock)(hsz:wr.heap.size<=w2.heap.size)
  (hown':w2.ownsRow Bc 3 1 v' (c.length+1) (c.map (Value.int .i64)++[.int .i64 m])):
  TabC B Bc (w2.setCell ⟨gb,d.length,none⟩ v') (.slice (some ⟨gb,0,none⟩) (d.length+1) tcap) d (c++[m]):=by
 have hH:=a3R hown hcur hgrow;obtain⟨hS,hG⟩:=hH.stored d.length v'
 have hset:(hds++[cv]).set d.length v'=hds++[v']:=by
  rw[List.set_append_right _ _ om];simp[show d.length-hds.length=0 by omega]
 rw[hset]at hS;refine⟨hds,v',hS,fun j hj=>⟨?_,(holds j hj).2⟩,?_,hB,?_⟩
 ·have h1:=((holds j hj).1.alloc tmp).kept hgrow (ahO (b:=B) (e:=3) (s:=1) (n:=0) (xs:=[]) (w:=wr) hcur (holds j hj).2)
  exact h1.kept hG (ab2 h1 hH ox)
 ·have h1:=hown'.kept hG (ab2 hown' hH ox);rw[aol,aoE];exact h1
 simp;omega
theorem TabC.next{tv:Value}(h:TabC B Bc wr tv d c)(hgrow:(wr.alloc tmp).grownBy w2 tv.ownBlock)(hsz:wr.heap.size<=w2.heap.size):
  ∀hds cv,wr.ownsRow B 122 1 tv (d.length+1) (hds++[cv])->(∀j,j<d.length->wr.ownsRow B 3 1 (hds.getD j undef) (d.getD j []).length ((d.getD j []).map (Value.int .i64))/\∀k,(hds.getD j undef).ownBlock=some k->k<Bc)->
   wr.ownsRow Bc 3 1 cv c.length (c.map (Value.int .i64))->w2.ownsRow B 122 1 v' (d.length+1+1) (hds++[cv]++[.slice none 0 0])->TabC B w2.heap.size w2 v' (d++[c]) []:=by
 intro hds cv h1 h2 h3 h4;have hB:B<=Bc:=by obtain⟨_,_,_,_,_,hB,_⟩:=h;exact hB
 have hBw:Bc<=wr.heap.size:=by obtain⟨_,_,_,_,_,_,hB⟩:=h;exact hB
 have hl:=h1.1;simp only[aol,aom,aow]at hl;refine⟨hds++[cv],.slice none 0 0,by rw[aol];exact h4,fun j hj=>?_,World.ownsRow_nil _ _ _ _,om,aof _⟩;rw[aol]at hj;simp only[aom,aow]at hj;have hk:∀{b:Nat} {x:Value} {l:List Int},wr.ownsRow b 3 1 x l.length (l.map (Value.int .i64))->w2.ownsRow b 3 1 x l.length (l.map (Value.int .i64)):=fun hx=>(hx.alloc tmp).kept hgrow (ab2 hx h1 ox)
 have he:∀{b:Nat} {x:Value} {l:List Int},wr.ownsRow b 3 1 x l.length (l.map (Value.int .i64))->∀k,x.ownBlock=some k->k<w2.heap.size:=fun hx k hk=>by have:=(a5z hx hk).2;omega
 rcases aoO.1 hj with hjl|rfl
 ·rw[a2n _ _ _ om,a2n _ _ _ hjl];exact⟨hk (h2 j hjl).1,he (h2 j hjl).1⟩
 have e1:=a2o hds cv undef;have e2:=a2o d c [];rw[show hds.length=d.length by omega]at e1;rw[e1,e2];exact⟨a9J (hk h3) hB,he h3⟩
end push
theorem TabC.tab{B Bc:Nat}{X:World}{v:Value}{d:List (List Int)}{c:List Int}(h:TabC B Bc X v d c):TabO B X v (d++[c]):=by
 obtain⟨hds,cv,h1,h2,h3,h4,h5⟩:=h;have hl:=h1.1;simp only[aol,aom,aow]at hl;refine⟨hds++[cv],by rw[aol];exact h1,fun j hj=>?_⟩;rw[aol]at hj;simp only[aom,aow]at hj;rcases aoO.1 hj with hjl|rfl
 ·rw[a2n _ _ _ om,a2n _ _ _ hjl];exact(h2 j hjl).1
 have e1:=a2o hds cv undef;have e2:=a2o d c [];rw[show hds.length=d.length by omega]at e1;rw[e1,e2];exact a9J h3 h4
theorem drop_byte{s:ByteArray}{k:Nat}(h:k<s.size):s.data.toList.drop k=s[k]::s.data.toList.drop (k+1):=by
 have h2:k<s.data.toList.length:=by rw[apO];exact h
 rw[aoL h2];rfl
theorem u8_eq{b:UInt8}{n:Nat}(hn:n<256):b=UInt8.ofNat n↔b.toNat=n:=by
 constructor
 ·rintro rfl;rw[UInt8.toNat_ofNat'];omega
 intro h;apply UInt8.toNat_inj.1;rw[h,UInt8.toNat_ofNat'];omega
theorem rParse_any(s:ByteArray)(w:World)(hs:s.size<=1000):Calls prog 134 #[.string s] w (a8A (a1J s) w):=by
 obtain⟨i0,hi0,hz0,hz1,hz2⟩:=info_parts Tryz.infoInts;obtain⟨j0,hj0,hy0,hy1,hy2⟩:=info_parts Tryz.infoInt
 have hT0:TabC w.heap.size (w.heap.size+1) (w.alloc (.cells #[.slice none 0 0] 122)) (.slice (some ⟨w.heap.size,0,none⟩) 1 1) [] []:=by
  refine⟨[],.slice none 0 0,⟨rfl,.inr ⟨w.heap.size,1,#[.slice none 0 0],rfl,aof _,World.alloc_heap_new w _,by simp,by unfold maxLen;omega,rfl,rfl⟩⟩,fun j hj=>by simp at hj,World.ownsRow_nil _ _ _ _,aoS _,by simp⟩
 have hb0:Below w.heap.size w (w.alloc (.cells #[.slice none 0 0] 122)):=(aoi _ w).alloc (aof _) _
 go_enter func134,ntmps134;go_wp2;go_loopw [4,5,6,7] (fun tv n g i wr=>RpI s w.heap.size w tv n g i wr) (fun _ _ _ i _=>s.size+1-(intOf i).toNat)
 case atStart=>exact⟨0,[],[],0,1,_,rfl,rfl,rfl,om,om,.inl rfl,hT0,by simp,by simp,fun l hl=>by simp at hl,hb0,.inl ⟨aot _,rfl⟩⟩
 case round=>
  obtain⟨k,d,c,nn,gg,Bc,rfl,rfl,rfl,hn0,hn1,hg,htab,hd,hc,hrows,hbel,hscan⟩:=hrel;have HTAB:=hid htab;have HROWS:=hid hrows;have HB:=hid hbel;clear htab hrows hbel hT0 hb0;by_cases hk1:k=s.size+1
  ·have hend:=hscan.resolve_left (fun h=>om);have hle2:¬(k:Int)<=(s.size:Int):=om;have HEND:=hid hend.2
   have hrw:=HTAB.out.tab.rows (by rw[aol];simp;omega) (fun l hl=>by
    rcases aoI.1 hl with h|h
    ·have:=HROWS.out l h;omega
    simp only[apJ]at h;subst h;omega)
   have HRW:=hid hrw;have VA:=hid (rValid_any _ (d++[c]) wr hrw);obtain⟨oa,oc,rfl,_⟩:=hrw;have HK1:=hid hk1;have e1:(d++[c]).length=d.length+1:=by simp
   clear hend hscan hk1 HTAB HROWS;generalize htt:d++[c]=tt at *;clear htt e1;cases hv:vld tt with
   |false=>
    rw[hv]at VA;have HPAR:=hid (show a1J s=none by unfold a1J;rw[HEND.out];simp[hv]);clear hv;go_wp2_with fail
    refine(VA.out).mono ?_
    rintro e w' ⟨rfl,rfl⟩;go_wp2;go_ret2;exact⟨_,by rw[HPAR.out];rfl,by rw[HPAR.out];exact a1K _,HB.out⟩
   | true=>
    rw[hv]at VA;have TX:=hid (rtext_any (.slice oa tt.length oc) tt wr HRW.out ((vld_iff tt).1 hv));have e0:a7l (a27 tt)= .string (bsB (a27 tt)):=rfl
    rw[e0]at TX;by_cases ht:a27 tt=s.data.toList
    ·have HPAR:=hid (show a1J s=some tt by unfold a1J;rw[HEND.out];simp[hv,ht]);have hse:bsB (a27 tt)=s:=by rw[ht];apply a5x;simp[bsB]
     rw[hse]at TX;have hne:=ajG s;clear hv ht hse e0;go_wp2_with fail
     refine(VA.out).mono ?_
     rintro e w' ⟨rfl,rfl⟩;go_wp2_with fail
     refine TX.out.mono ?_;rintro e w1 ⟨rfl,hb1⟩;go_wp2;go_ret2;exact⟨_,by rw[HPAR.out];rfl,by rw[HPAR.out];exact HRW.out.below hb1,HB.out.trans (hb1.mono HB.out.size)⟩
    have HPAR:=hid (show a1J s=none by unfold a1J;rw[HEND.out];simp[hv,ht])
    have hse:((bsB (a27 tt)).toList==s.toList)=false:=ba_lne (by
     intro e;exact ht (by rw[<-e];simp[bsB]))
    clear hv ht e0;go_wp2_with fail
    refine(VA.out).mono ?_
    rintro e w' ⟨rfl,rfl⟩;go_wp2_with fail
    refine TX.out.mono ?_;rintro e w1 ⟨rfl,hb1⟩;go_wp2;go_ret2;exact⟨_,by rw[HPAR.out];rfl,by rw[HPAR.out];exact a1K _,HB.out.trans (hb1.mono HB.out.size)⟩
  have hk:=hscan.resolve_right (fun h=>hk1 h.1);have HSC:=hid hk.2;have hks:=hk.1;clear hscan hk hk1;by_cases hlt:k<s.size
  ·have HDR:=hid (drop_byte hlt);have hlt2:(k:Int)<(s.size:Int):=om;have hle2:(k:Int)<=(s.size:Int):=om;by_cases h45:s[k].toNat=45
   ·have hb45:((s[k].toNat:Int)==45)=true:=by rw[beq_iff_eq];omega
    have hb:s[k]=45:=(u8_eq (n:=45) ox).2 h45
    have HB45:=hid hb;clear hb;go_wp2;go_roundw
    case rel=>exact⟨k+1,d,c,nn, -1,Bc,by go_num,rfl,rfl,hn0,hn1,.inr rfl,HTAB.out,hd,hc,HROWS.out,HB.out,.inl ⟨om,by rw[<-HSC.out,HDR.out,a0I,if_pos HB45.out]⟩⟩
    case measure=>simp[intOf];omega
   have hb45:((s[k].toNat:Int)==45)=false:=by rw[beq_eq_false_iff_ne];omega
   by_cases hdig:48<=s[k].toNat/\s[k].toNat<=57
   ·obtain⟨h48,h57⟩:=hdig;have h48':(48:Int)<=(s[k].toNat:Int):=om;have h57':(s[k].toNat:Int)<=57:=om;have HN45:=hid (show¬s[k]=45 from fun e=>h45 ((u8_eq (n:=45) ox).1 e));have HMIN:=hid (show (10 * nn+((s[k].toNat:Int)-48))=10 * nn+((s[k].toNat-48:Nat):Int) by omega);go_wp2;go_roundw
    case rel=>exact⟨k+1,d,c,_,gg,Bc,by go_num,rfl,rfl,om,om,hg,HTAB.out,hd,hc,HROWS.out,HB.out,.inl ⟨om,by rw[<-HSC.out,HDR.out,a0I,if_neg HN45.out,if_pos ⟨h48,h57⟩,HMIN.out]⟩⟩
    case measure=>simp[intOf];omega
   have HN45:=hid (show¬s[k]=45 from fun e=>h45 ((u8_eq (n:=45) ox).1 e));have HND:=hid hdig;obtain⟨hds,cv,hown,holds,hcur,hB1,hB2⟩:=HTAB.out;obtain⟨gb,tcap,rfl⟩:=ownsRow_succ hown;obtain⟨ca,cc,rfl,_⟩:=own_cells hcur;have hlen:=hown.1;simp only[aol,aom,aow]at hlen
   have cT:wr.cell? ⟨gb,d.length,none⟩=some (.slice ca c.length cc):=by
    have h:=hown.cellAt d.length om;rw[h,aoX om];simp[show d.length-hds.length=0 by omega]
   have fT:=hown.frozenAt d.length;have HOWN:=hid hown;have HOLDS:=hid holds;have HCUR:=hid hcur;have HLEN:=hid hlen;clear hown holds hcur hlen;by_cases h59:s[k].toNat=59
   ·have hb59:((s[k].toNat:Int)==59)=true:=by rw[beq_iff_eq];omega
    have h48':(48:Int)<=(s[k].toNat:Int):=om;have h57':¬(s[k].toNat:Int)<=57:=om;have HB59:=hid (show s[k]=59 from(u8_eq (n:=59) ox).2 h59);have HCOND:=hid (show (4<d.length+1\/12<=c.length)->a0I (s.data.toList.drop k) d c nn gg=none from fun h=>by rw[HDR.out,a0I,if_neg HN45.out,if_neg HND.out,if_pos h]);have HGO:=hid (show¬(4<d.length+1\/12<=c.length)->a0I (s.data.toList.drop k) d c nn gg=a0I (s.data.toList.drop (k+1)) (d++[c++[gg * nn]]) [] 0 1 from fun h=>by rw[HDR.out,a0I,if_neg HN45.out,if_neg HND.out,if_neg h,if_pos HB59.out]);clear h45 h59 hdig;by_cases hd4:3<d.length
    ·have hL:(4:Int)<(d.length:Int)+1:=om;have hL2:4<d.length+1:=om;have hL3:(4:Int)<=(d.length:Int):=om;have hL4:4<=d.length:=om;have HSTEP:=hid (HCOND.out (.inl hL2));have HPAR:=hid (show a1J s=none by unfold a1J;rw[<-HSC.out,HSTEP.out]);clear HSC HSTEP HOLDS HOWN HCUR HTAB HROWS;go_wp2;go_ret2;exact⟨_,by rw[HPAR.out];rfl,by rw[HPAR.out];exact a1K _,HB.out⟩
    have hL:¬(4:Int)<(d.length:Int)+1:=om;have hL2:¬4<d.length+1:=om;have hL3:¬(4:Int)<=(d.length:Int):=om;have hL4:¬4<=d.length:=om;by_cases hc12:12<=c.length
    ·have hC:(12:Int)<=(c.length:Int):=om;have HSTEP:=hid (HCOND.out (.inr hc12));have HPAR:=hid (show a1J s=none by unfold a1J;rw[<-HSC.out,HSTEP.out]);clear HSC HSTEP HOLDS HOWN HCUR HTAB HROWS;go_wp2;go_ret2;exact⟨_,by rw[HPAR.out];rfl,by rw[HPAR.out];exact a1K _,HB.out⟩
    have hC:¬(12:Int)<=(c.length:Int):=om;have HSTEP:=hid (HGO.out om);clear HCOND HGO
    have hwm:wrap64 (gg * nn)=gg * nn:=by
     rcases hg with rfl|rfl<;>exact IntWalk.wrap64_in _ ⟨om,om⟩
    go_wp2_with (at_builtin;refine wpList_append_own _ rfl (.tmp 70) (.tmp 74) 122 rfl Bc 3 j0 (.int .i64 0) 1 8 underlying122 hj0 hy0 hy1 hy2 rfl ox _ _ _ rfl (HCUR.out.alloc _) ⟨wr.heap.size,0,none⟩ 1 1 [.int .i64 (gg * nn)] rfl rfl (a0h _ _ _) (by intro u hu;simp at hu;subst hu;rfl) (by unfold maxLen;omega) om km ?_)
    intro v' w2 hown' hgrow _;obtain⟨g',cap',rfl⟩:=ownsRow_succ hown';have hB3:=a29 (B:=w.heap.size) HB.out HB.out.size HCUR.out om hgrow;have hH2:=a3R HOWN.out HCUR.out hgrow;have hw2:wr.heap.size<=w2.heap.size:=by have:=hgrow.size;simp at this;omega
    have hT2:=TabC.push HOWN.out HLEN.out HOLDS.out HCUR.out hB1 hB2 hgrow hw2 hown'
    have cT2:w2.cell? ⟨gb,d.length,none⟩=some (.slice ca c.length cc):=by
     have h:=hH2.cellAt d.length om;have hl:=HLEN.out;rw[h,aoX om];simp[show d.length-hds.length=0 by omega]
    have fT2:=hH2.frozenAt d.length;have hb4:Below w.heap.size w (w2.setCell ⟨gb,d.length,none⟩ (.slice (some ⟨g',0,none⟩) (c.length+1) cap')):=hB3.setCell (p:=⟨gb,d.length,none⟩) (a5z HOWN.out rfl).1 _
    have HT2:=hid hT2;have HB4:=hid hb4;clear hown' hgrow hB3 hH2 hT2 hb4 cT fT;obtain⟨hds2,cv2,k1,k2,k3,_,_⟩:=id HT2.out;have K1:=hid k1;have K2:=hid k2;have K3:=hid k3;have hB4s:=HB4.out.size;rw[aos]at hB4s;have hnew:=a0h (w2.setCell ⟨gb,d.length,none⟩ (.slice (some ⟨g',0,none⟩) (c.length+1) cap')) (.slice none 0 0) 122;rw[aos]at hnew;have HNEW:=hid hnew;clear k1 k2 k3 hnew;go_wp2_with (at_builtin;refine wpList_append_own _ rfl (.tmp 87) (.tmp 88) 168 rfl w.heap.size 122 i0 (.slice none 0 0) 1 24 underlying168 hi0 hz0 hz1 hz2 rfl ox _ _ _ rfl (K1.out.alloc _) ⟨w2.heap.size,0,none⟩ 1 1 [.slice none 0 0] rfl rfl HNEW.out (by intro u hu;simp at hu;subst hu;rfl) (by unfold maxLen;omega) om km ?_)
    intro v3 w3 hown3 hgrow3 _;have hw3:w2.heap.size<=w3.heap.size:=by have:=hgrow3.size;simp at this;omega
    have TN:=hid (TabC.next HT2.out hgrow3 (by rw[aos];exact hw3) hds2 cv2 K1.out K2.out K3.out (by rw[aoT];exact hown3));have HB5:=hid (a29 (B:=w.heap.size) HB4.out (by rw[aos];exact hB4s) K1.out (aof _) hgrow3)
    have HR5:=hid (show∀l∈d++[c++[gg * nn]],l.length<=12 from fun l hl=>by
     rcases aoI.1 hl with h|h
     ·exact HROWS.out l h
     simp only[apJ]at h;subst h;simp;omega)
    clear hown3 hgrow3;go_wp2;go_roundw
    case rel=>exact⟨k+1,d++[c++[gg * nn]],[],0,1,_,by go_num,rfl,rfl,om,om,.inl rfl,TN.out,by simp;omega,by simp,HR5.out,HB5.out,.inl ⟨om,by rw[<-HSC.out,HSTEP.out]⟩⟩
    case measure=>simp[intOf];omega
   have hb59:((s[k].toNat:Int)==59)=false:=by rw[beq_eq_false_iff_ne];omega
   have HN59:=hid (show¬s[k]=59 from fun e=>h59 ((u8_eq (n:=59) ox).1 e));have HCOND:=hid (show (4<d.length+1\/12<=c.length)->a0I (s.data.toList.drop k) d c nn gg=none from fun h=>by rw[HDR.out,a0I,if_neg HN45.out,if_neg HND.out,if_pos h]);have HGO:=hid (show¬(4<d.length+1\/12<=c.length)->a0I (s.data.toList.drop k) d c nn gg=a0I (s.data.toList.drop (k+1)) d (c++[gg * nn]) 0 1 from fun h=>by rw[HDR.out,a0I,if_neg HN45.out,if_neg HND.out,if_neg h,if_neg HN59.out]);by_cases h48:48<=s[k].toNat
   ·have h48':(48:Int)<=(s[k].toNat:Int):=om;have h57':¬(s[k].toNat:Int)<=57:=om;clear h45 h59 hdig h48;by_cases hd4:3<d.length
    ·have hL:(4:Int)<(d.length:Int)+1:=om;have hL2:4<d.length+1:=om;have hL3:(4:Int)<=(d.length:Int):=om;have hL4:4<=d.length:=om;have HSTEP:=hid (HCOND.out (.inl hL2));have HPAR:=hid (show a1J s=none by unfold a1J;rw[<-HSC.out,HSTEP.out]);clear HSC HSTEP HOLDS HOWN HCUR HTAB HROWS;go_wp2;go_ret2;exact⟨_,by rw[HPAR.out];rfl,by rw[HPAR.out];exact a1K _,HB.out⟩
    have hL:¬(4:Int)<(d.length:Int)+1:=om;have hL2:¬4<d.length+1:=om;have hL3:¬(4:Int)<=(d.length:Int):=om;have hL4:¬4<=d.length:=om;by_cases hc12:12<=c.length
    ·have hC:(12:Int)<=(c.length:Int):=om;have HSTEP:=hid (HCOND.out (.inr hc12));have HPAR:=hid (show a1J s=none by unfold a1J;rw[<-HSC.out,HSTEP.out]);clear HSC HSTEP HOLDS HOWN HCUR HTAB HROWS;go_wp2;go_ret2;exact⟨_,by rw[HPAR.out];rfl,by rw[HPAR.out];exact a1K _,HB.out⟩
    have hC:¬(12:Int)<=(c.length:Int):=om;have HSTEP:=hid (HGO.out om);clear HCOND HGO
    have hwm:wrap64 (gg * nn)=gg * nn:=by
     rcases hg with rfl|rfl<;>exact IntWalk.wrap64_in _ ⟨om,om⟩
    go_wp2_with (at_builtin;refine wpList_append_own _ rfl (.tmp 70) (.tmp 74) 122 rfl Bc 3 j0 (.int .i64 0) 1 8 underlying122 hj0 hy0 hy1 hy2 rfl ox _ _ _ rfl (HCUR.out.alloc _) ⟨wr.heap.size,0,none⟩ 1 1 [.int .i64 (gg * nn)] rfl rfl (a0h _ _ _) (by intro u hu;simp at hu;subst hu;rfl) (by unfold maxLen;omega) om km ?_)
    intro v' w2 hown' hgrow _;obtain⟨g',cap',rfl⟩:=ownsRow_succ hown';have hB3:=a29 (B:=w.heap.size) HB.out HB.out.size HCUR.out om hgrow;have hH2:=a3R HOWN.out HCUR.out hgrow;have hw2:wr.heap.size<=w2.heap.size:=by have:=hgrow.size;simp at this;omega
    have hT2:=TabC.push HOWN.out HLEN.out HOLDS.out HCUR.out hB1 hB2 hgrow hw2 hown'
    have cT2:w2.cell? ⟨gb,d.length,none⟩=some (.slice ca c.length cc):=by
     have h:=hH2.cellAt d.length om;have hl:=HLEN.out;rw[h,aoX om];simp[show d.length-hds.length=0 by omega]
    have fT2:=hH2.frozenAt d.length;have hb4:Below w.heap.size w (w2.setCell ⟨gb,d.length,none⟩ (.slice (some ⟨g',0,none⟩) (c.length+1) cap')):=hB3.setCell (p:=⟨gb,d.length,none⟩) (a5z HOWN.out rfl).1 _
    have HT2:=hid hT2;have HB4:=hid hb4;clear hown' hgrow hB3 hH2 hT2 hb4 cT fT;go_wp2;go_roundw
    case rel=>exact⟨k+1,d,c++[gg * nn],0,1,Bc,by go_num,rfl,rfl,om,om,.inl rfl,HT2.out,hd,by simp;omega,HROWS.out,HB4.out,.inl ⟨om,by rw[<-HSC.out,HSTEP.out]⟩⟩
    case measure=>simp[intOf];omega
   have h48':¬(48:Int)<=(s[k].toNat:Int):=om;clear h45 h59 hdig h48;by_cases hd4:3<d.length
   ·have hL:(4:Int)<(d.length:Int)+1:=om;have hL2:4<d.length+1:=om;have hL3:(4:Int)<=(d.length:Int):=om;have hL4:4<=d.length:=om;have HSTEP:=hid (HCOND.out (.inl hL2));have HPAR:=hid (show a1J s=none by unfold a1J;rw[<-HSC.out,HSTEP.out]);clear HSC HSTEP HOLDS HOWN HCUR HTAB HROWS;go_wp2;go_ret2;exact⟨_,by rw[HPAR.out];rfl,by rw[HPAR.out];exact a1K _,HB.out⟩
   have hL:¬(4:Int)<(d.length:Int)+1:=om;have hL2:¬4<d.length+1:=om;have hL3:¬(4:Int)<=(d.length:Int):=om;have hL4:¬4<=d.length:=om;by_cases hc12:12<=c.length
   ·have hC:(12:Int)<=(c.length:Int):=om;have HSTEP:=hid (HCOND.out (.inr hc12));have HPAR:=hid (show a1J s=none by unfold a1J;rw[<-HSC.out,HSTEP.out]);clear HSC HSTEP HOLDS HOWN HCUR HTAB HROWS;go_wp2;go_ret2;exact⟨_,by rw[HPAR.out];rfl,by rw[HPAR.out];exact a1K _,HB.out⟩
   have hC:¬(12:Int)<=(c.length:Int):=om;have HSTEP:=hid (HGO.out om);clear HCOND HGO
   have hwm:wrap64 (gg * nn)=gg * nn:=by
    rcases hg with rfl|rfl<;>exact IntWalk.wrap64_in _ ⟨om,om⟩
   go_wp2_with (at_builtin;refine wpList_append_own _ rfl (.tmp 70) (.tmp 74) 122 rfl Bc 3 j0 (.int .i64 0) 1 8 underlying122 hj0 hy0 hy1 hy2 rfl ox _ _ _ rfl (HCUR.out.alloc _) ⟨wr.heap.size,0,none⟩ 1 1 [.int .i64 (gg * nn)] rfl rfl (a0h _ _ _) (by intro u hu;simp at hu;subst hu;rfl) (by unfold maxLen;omega) om km ?_)
   intro v' w2 hown' hgrow _;obtain⟨g',cap',rfl⟩:=ownsRow_succ hown';have hB3:=a29 (B:=w.heap.size) HB.out HB.out.size HCUR.out om hgrow;have hH2:=a3R HOWN.out HCUR.out hgrow;have hw2:wr.heap.size<=w2.heap.size:=by have:=hgrow.size;simp at this;omega
   have hT2:=TabC.push HOWN.out HLEN.out HOLDS.out HCUR.out hB1 hB2 hgrow hw2 hown'
   have cT2:w2.cell? ⟨gb,d.length,none⟩=some (.slice ca c.length cc):=by
    have h:=hH2.cellAt d.length om;have hl:=HLEN.out;rw[h,aoX om];simp[show d.length-hds.length=0 by omega]
   have fT2:=hH2.frozenAt d.length;have hb4:Below w.heap.size w (w2.setCell ⟨gb,d.length,none⟩ (.slice (some ⟨g',0,none⟩) (c.length+1) cap')):=hB3.setCell (p:=⟨gb,d.length,none⟩) (a5z HOWN.out rfl).1 _
   have HT2:=hid hT2;have HB4:=hid hb4;clear hown' hgrow hB3 hH2 hT2 hb4 cT fT;go_wp2;go_roundw
   case rel=>exact⟨k+1,d,c++[gg * nn],0,1,Bc,by go_num,rfl,rfl,om,om,.inl rfl,HT2.out,hd,by simp;omega,HROWS.out,HB4.out,.inl ⟨om,by rw[<-HSC.out,HSTEP.out]⟩⟩
   case measure=>simp[intOf];omega
  have hke:k=s.size:=om;have hle2:(k:Int)<=(s.size:Int):=om;have hlt2:¬(k:Int)<(s.size:Int):=om;have HDE:=hid (show s.data.toList.drop k=[]from apy (by rw[apO];show s.size<=k;omega));obtain⟨hds,cv,hown,holds,hcur,hB1,hB2⟩:=HTAB.out;obtain⟨gb,tcap,rfl⟩:=ownsRow_succ hown;obtain⟨ca,cc,rfl,_⟩:=own_cells hcur;have hlen:=hown.1;simp only[aol,aom,aow]at hlen
  have cT:wr.cell? ⟨gb,d.length,none⟩=some (.slice ca c.length cc):=by
   have h:=hown.cellAt d.length om;rw[h,aoX om];simp[show d.length-hds.length=0 by omega]
  have fT:=hown.frozenAt d.length;have HOWN:=hid hown;have HOLDS:=hid holds;have HCUR:=hid hcur;have HLEN:=hid hlen;clear hown holds hcur hlen;have HCOND:=hid (show (4<d.length+1\/12<=c.length)->a0I (s.data.toList.drop k) d c nn gg=none from fun h=>by rw[HDE.out,a0I,if_pos h]);have HGO:=hid (show¬(4<d.length+1\/12<=c.length)->a0I (s.data.toList.drop k) d c nn gg=some (d++[c++[gg * nn]])from fun h=>by rw[HDE.out,a0I,if_neg h]);have HKE:=hid hke;clear hke;by_cases hd4:3<d.length
  ·have hL:(4:Int)<(d.length:Int)+1:=om;have hL2:4<d.length+1:=om;have hL3:(4:Int)<=(d.length:Int):=om;have hL4:4<=d.length:=om;have HSTEP:=hid (HCOND.out (.inl hL2));have HPAR:=hid (show a1J s=none by unfold a1J;rw[<-HSC.out,HSTEP.out]);clear HSC HSTEP HOLDS HOWN HCUR HTAB HROWS;go_wp2;go_ret2;exact⟨_,by rw[HPAR.out];rfl,by rw[HPAR.out];exact a1K _,HB.out⟩
  have hL:¬(4:Int)<(d.length:Int)+1:=om;have hL2:¬4<d.length+1:=om;have hL3:¬(4:Int)<=(d.length:Int):=om;have hL4:¬4<=d.length:=om;by_cases hc12:12<=c.length
  ·have hC:(12:Int)<=(c.length:Int):=om;have HSTEP:=hid (HCOND.out (.inr hc12));have HPAR:=hid (show a1J s=none by unfold a1J;rw[<-HSC.out,HSTEP.out]);clear HSC HSTEP HOLDS HOWN HCUR HTAB HROWS;go_wp2;go_ret2;exact⟨_,by rw[HPAR.out];rfl,by rw[HPAR.out];exact a1K _,HB.out⟩
  have hC:¬(12:Int)<=(c.length:Int):=om;have HSTEP:=hid (HGO.out om);clear HCOND HGO
  have hwm:wrap64 (gg * nn)=gg * nn:=by
   rcases hg with rfl|rfl<;>exact IntWalk.wrap64_in _ ⟨om,om⟩
  go_wp2_with (at_builtin;refine wpList_append_own _ rfl (.tmp 70) (.tmp 74) 122 rfl Bc 3 j0 (.int .i64 0) 1 8 underlying122 hj0 hy0 hy1 hy2 rfl ox _ _ _ rfl (HCUR.out.alloc _) ⟨wr.heap.size,0,none⟩ 1 1 [.int .i64 (gg * nn)] rfl rfl (a0h _ _ _) (by intro u hu;simp at hu;subst hu;rfl) (by unfold maxLen;omega) om km ?_)
  intro v' w2 hown' hgrow _;obtain⟨g',cap',rfl⟩:=ownsRow_succ hown';have hB3:=a29 (B:=w.heap.size) HB.out HB.out.size HCUR.out om hgrow;have hH2:=a3R HOWN.out HCUR.out hgrow;have hw2:wr.heap.size<=w2.heap.size:=by have:=hgrow.size;simp at this;omega
  have hT2:=TabC.push HOWN.out HLEN.out HOLDS.out HCUR.out hB1 hB2 hgrow hw2 hown'
  have cT2:w2.cell? ⟨gb,d.length,none⟩=some (.slice ca c.length cc):=by
   have h:=hH2.cellAt d.length om;have hl:=HLEN.out;rw[h,aoX om];simp[show d.length-hds.length=0 by omega]
  have fT2:=hH2.frozenAt d.length;have hb4:Below w.heap.size w (w2.setCell ⟨gb,d.length,none⟩ (.slice (some ⟨g',0,none⟩) (c.length+1) cap')):=hB3.setCell (p:=⟨gb,d.length,none⟩) (a5z HOWN.out rfl).1 _
  have HT2:=hid hT2;have HB4:=hid hb4;clear hown' hgrow hB3 hH2 hT2 hb4 cT fT;go_wp2;go_roundw
  case rel=>exact⟨k+1,d,c++[gg * nn],0,1,Bc,by go_num,rfl,rfl,om,om,.inl rfl,HT2.out,hd,by simp;omega,HROWS.out,HB4.out,.inr ⟨om,by rw[<-HSC.out,HSTEP.out]⟩⟩
  case measure=>simp[intOf];omega
theorem aeF{α β:Type}(f:α->Option β)(g:β->α)(ys:List β)(h:∀y∈ys,f (g y)=some y):allS f (ys.map g)=some ys:=by
 induction ys with
 |nil=>rfl
 |cons y ys ih=>rw[aoJ,allS,h y oz,ih (fun z hz=>h z (by simp[hz]))]
theorem a9j{c:UInt8}:∀{l:List UInt8},(∀x∈l,x≠c)->a15 c l=[l]
 |[],_=>rfl
 |b::r,h=>by
  have hb:(b==c)=false:=by simpa using h b oz
  rw[a15,a9j (fun x hx=>h x (by simp[hx]))];simp[hb]
theorem abh{c:UInt8}:∀{l:List UInt8} (r:List UInt8),(∀x∈l,x≠c)->a15 c (l++c::r)=l::a15 c r
 |[],r,_=>by simp[a15]
 |b::l,r,h=>by
  have hb:(b==c)=false:=by simpa using h b oz
  rw[aoA,a15,abh r (fun x hx=>h x (by simp[hx]))];simp[hb]
theorem a9k{c:UInt8}:∀(xs:List (List UInt8)),xs≠[]->(∀x∈xs,∀b∈x,b≠c)->a15 c (Lib.join xs [c])=xs
 |[],h,_=>absurd rfl h
 |[x],_,h=>by rw[Lib.join_one];exact a9j (h x oz)
 | x::y::r,_,h=>by
  have h1:Lib.join (x::y::r) [c]=x++c::Lib.join (y::r) [c]:=by
   rw[Lib.join_cons,Lib.join_cons];simp[Lib.joinTail]
  rw[h1,abh _ (h x oz),a9k (y::r) oz (fun z hz=>h z (by simp[hz]))]
theorem a9l{c:UInt8}(xs:List (List UInt8))(h0:xs≠[])(h:∀x∈xs,∀b∈x,b≠c):splitA c (bsB (Lib.join xs [c]))=xs.map bsB:=by
 unfold splitA;rw[show (bsB (Lib.join xs [c])).data.toList=Lib.join xs [c]from by simp[bsB],a9k xs h0 h];rfl
def numbs:List Int:=(List.range 201).map fun(i:Nat)=>(i:Int)-100
theorem acM{n:Int}(h0: -100<=n)(h1:n<=100):n∈numbs:=ap1.2 ⟨(n+100).toNat,List.mem_range.2 om,om⟩
def eat:List UInt8->Int->Int->Option (Int×Int)
 |[],a,b=>some (a,b)
 |x::r,a,b=>if x=45 then eat r a (-1)else if 48<=x.toNat/\x.toNat<=57 then eat r (min (10 * a+(x.toNat-48:Nat)) 1000) b else none
def numB(n:Int):Bool:=decide (Lib.atoiAll (Lib.itoa n)= .ok n)&&decide (eat (Lib.itoa n) 0 1=some ((n.natAbs:Int),if n<0 then (-1:Int)else 1))&&(Lib.itoa n).all fun b=>decide (b≠44)&&decide (b≠59)
theorem alW:numbs.all numB=true:=by decide+kernel
theorem a5u{n:Int}(h0: -100<=n)(h1:n<=100):Lib.atoiAll (Lib.itoa n)= .ok n/\eat (Lib.itoa n) 0 1=some ((n.natAbs:Int),if n<0 then (-1:Int)else 1)/\∀b∈Lib.itoa n,b≠44/\b≠59:=by
 have:=ap6.1 alW n (acM h0 h1);unfold numB at this;simp only[Bool.and_eq_true,decide_eq_true_eq,ap6]at this;exact⟨this.1.1,this.1.2,fun b hb=>this.2 b hb⟩
theorem alX{b:UInt8}{sep:List UInt8}:∀{xs:List (List UInt8)},b∈Lib.join xs sep->b∈sep\/∃x∈xs,b∈x
 |[],h=>by rw[Lib.join_nil]at h;simp at h
 |x::xs,h=>by
  rw[Lib.join_cons,aoI]at h;rcases h with h|h
  ·exact .inr ⟨x,by simp,h⟩
  unfold Lib.joinTail at h;obtain⟨l,hl,hb⟩:=List.mem_flatten.1 h;obtain⟨y,hy,rfl⟩:=ap1.1 hl;rcases aoI.1 hb with hb|hb
  ·exact .inl hb
  exact .inr ⟨y,by simp[hy],hb⟩
theorem anZ{l:List Int}(h:a43 l=true):abJ (bsB (a1b l))=some l:=by
 obtain⟨h1,_,h3⟩:=(a2p l).1 h
 unfold abJ a1b
 rw[a9l _ (by intro e;rw[apD]at e;subst e;simp at h1) (fun x hx b hb=>by
  obtain⟨n,hn,rfl⟩:=ap1.1 hx;exact((a5u (h3 n hn).1 (h3 n hn).2).2.2 b hb).1),apx]
 exact aeF _ _ _ fun n hn=>by
  show a8z (bsB (Lib.itoa n))=some n;unfold a8z;rw[show (bsB (Lib.itoa n)).data.toList=Lib.itoa n from by simp[bsB],(a5u (h3 n hn).1 (h3 n hn).2).1]
theorem anp{l:List Int}(h:a43 l=true):∀b∈a1b l,b≠59:=by
 obtain⟨_,_,h3⟩:=(a2p l).1 h
 intro b hb;rcases alX hb with hb|⟨x,hx,hb⟩
 ·simp at hb;subst hb;decide
 obtain⟨n,hn,rfl⟩:=ap1.1 hx;exact((a5u (h3 n hn).1 (h3 n hn).2).2.2 b hb).2
theorem ao0{t:List (List Int)}(h:Vld t):abK (bsB (a27 t))=some t:=by
 have hw:∀l∈t,a43 l=true:=fun l hl=>(a2p l).2 (h.wave l hl)
 unfold abK a27
 rw[a9l _ (by intro e;rw[apD]at e;have:=h.lo;subst e;simp at this) (fun x hx b hb=>by
  obtain⟨l,hl,rfl⟩:=ap1.1 hx;exact anp (hw l hl) b hb),apx]
 exact aeF _ _ _ fun l hl=>anZ (hw l hl)
def lenB(n:Int):Bool:=decide ((Lib.itoa n).length<=4)
theorem anq:numbs.all lenB=true:=by decide+kernel
theorem aod{n:Int}(h0: -100<=n)(h1:n<=100):(Lib.itoa n).length<=4:=by
 have:=ap6.1 anq n (acM h0 h1);simpa [lenB]using this
theorem acN(sep:UInt8)(B:Nat)(xs:List (List UInt8))(h:∀x∈xs,x.length<=B)(h0:xs≠[]):(Lib.join xs [sep]).length+1<=xs.length * (B+1):=by
 cases xs with
 |nil=>exact absurd rfl h0
 | cons y ys=>
  rw[Lib.join_cons,aol];have h1:=h y oz
  have h2:(Lib.joinTail [sep] ys).length<=ys.length * (B+1):=by
   have hy:∀x∈ys,x.length<=B:=fun x hx=>h x (by simp[hx]);clear h h1 h0;induction ys with
   |nil=>simp[Lib.joinTail]
   |cons z zs ih=>
    have h3:=ih (fun x hx=>hy x (by simp[hx]));have h4:=hy z oz;simp only[Lib.joinTail,aoJ,List.flatten_cons,aol,aom,aow]at h3⊢;rw[aq7];omega
  rw[aom,aq7];omega
theorem afE{t:List (List Int)}(h:Vld t):(a27 t).length<=240:=by
 have hw:∀l∈t,(a1b l).length<=59:=fun l hl=>by
  obtain⟨h1,h2,h3⟩:=h.wave l hl
  have:=acN 44 4 (l.map Lib.itoa) (fun x hx=>by
   obtain⟨n,hn,rfl⟩:=ap1.1 hx;exact aod (h3 n hn).1 (h3 n hn).2) (by intro e;rw[apD]at e;subst e;simp at h1)
  rw[aoB]at this;unfold a1b;omega
 have h4:=h.hi
 have:=acN 59 59 (t.map a1b) (fun x hx=>by
  obtain⟨l,hl,rfl⟩:=ap1.1 hx;exact hw l hl) (by intro e;rw[apD]at e;have:=h.lo;subst e;simp at this)
 rw[aoB]at this;unfold a27;omega
theorem aeG(s:ByteArray)(t:List (List Int)):parP s=some t↔vld t=true/\a27 t=s.data.toList:=by
 unfold parP;constructor
 ·intro h;split at h
  ·cases h
  split at h
  ·cases h
  rename_i u hu
  split at h
  ·rename_i hc
   cases h
   simpa using hc
  cases h
 rintro⟨h1,h2⟩;have hV:=(vld_iff t).1 h1
 have hs:s=bsB (a27 t):=by rw[h2];apply a5x;simp[bsB]
 have hl:=afE hV;have hsz:¬240<s.size:=by rw[hs,bsB_size];omega
 rw[if_neg hsz,hs,ao0 hV];simp[h1,bsB]
theorem a9U:∀(l r:List UInt8) (d:List (List Int)) (c:List Int) (a g a' g':Int),eat l a g=some (a',g')->a0I (l++r) d c a g=a0I r d c a' g'
 |[],r,d,c,a,g,a',g',h=>by
  simp only[eat,Option.some.injEq,Prod.mk.injEq]at h;rw[h.1,h.2];rfl
 |x::l,r,d,c,a,g,a',g',h=>by
  rw[aoA,a0I];rw[eat]at h;split at h
  ·rename_i hx;rw[if_pos hx];exact a9U l r d c _ _ _ _ h
  rename_i hx
  rw[if_neg hx];split at h
  ·rename_i hd;rw[if_pos hd];exact a9U l r d c _ _ _ _ h
  cases h
theorem abT(n:Int):(if n<0 then (-1:Int)else 1) * (n.natAbs:Int)=n:=by split<;>omega
theorem aeH{n:Int}(h0: -100<=n)(h1:n<=100)(r:List UInt8)(d:List (List Int))(c:List Int):
  a0I (Lib.itoa n++r) d c 0 1=a0I r d c (n.natAbs:Int) (if n<0 then (-1:Int)else 1):=a9U _ _ _ _ _ _ _ _ (a5u h0 h1).2.1
theorem a8J:∀(l:List Int) (r:List UInt8) (d:List (List Int)) (c:List Int),l≠[]->(∀n∈l, -100<=n/\n<=100)->d.length+1<=4->c.length+l.length<=12->(r=[]\/∃r',r=59::r')->
  a0I (Lib.join (l.map Lib.itoa) [44]++r) d c 0 1=match r with
   |[]=>some (d++[c++l])
   |_::r'=>a0I r' (d++[c++l]) [] 0 1
 |[],_,_,_,h,_,_,_,_=>absurd rfl h
 |[n],r,d,c,_,h,hd,hc,hr=>by
  have hn:=h n oz;rw[aoJ,List.map_nil,Lib.join_one,aeH hn.1 hn.2];have hcond:¬(4<d.length+1\/12<=c.length):=by simp at hc;omega
  rcases hr with rfl|⟨r',rfl⟩
  ·rw[a0I,if_neg hcond,abT]
  rw[a0I,if_neg ox,if_neg ox,if_neg hcond,if_pos rfl,abT]
 | n::m::l,r,d,c,_,h,hd,hc,hr=>by
  have hn:=h n oz
  have h1:Lib.join ((n::m::l).map Lib.itoa) [44]++r=Lib.itoa n++44::(Lib.join ((m::l).map Lib.itoa) [44]++r):=by
   rw[aoJ,aoJ,Lib.join_cons,Lib.join_cons];simp[Lib.joinTail]
  have hcond:¬(4<d.length+1\/12<=c.length):=by simp at hc;omega
  rw[h1,aeH hn.1 hn.2,a0I,if_neg ox,if_neg ox,if_neg hcond,if_neg ox,abT,
   a8J (m::l) r d (c++[n]) oz (fun x hx=>h x (by simp[hx])) hd (by simp at hc⊢;omega) hr]
  cases r<;>simp
theorem acO:∀(t d:List (List Int)),t≠[]->(∀l∈t,l≠[]/\l.length<=12/\∀n∈l, -100<=n/\n<=100)->d.length+t.length<=4->a0I (Lib.join (t.map a1b) [59]) d [] 0 1=some (d++t)
 |[],_,h,_,_=>absurd rfl h
 |[l],d,_,h,hd=>by
  obtain⟨h1,h2,h3⟩:=h l oz;have:=a8J l [] d [] h1 h3 (by simpa using hd) (by simpa using h2) (.inl rfl);rw[apj]at this;rw[aoJ,List.map_nil,Lib.join_one];simpa [a1b]using this
 | l::m::t,d,_,h,hd=>by
  obtain⟨h1,h2,h3⟩:=h l oz
  have e:Lib.join ((l::m::t).map a1b) [59]=a1b l++59::Lib.join ((m::t).map a1b) [59]:=by
   rw[aoJ,aoJ,Lib.join_cons,Lib.join_cons];simp[Lib.joinTail]
  have:=a8J l (59::Lib.join ((m::t).map a1b) [59]) d [] h1 h3 (by simp at hd;omega) (by simpa using h2) (.inr ⟨_,rfl⟩);rw[e,show a1b l=Lib.join (l.map Lib.itoa) [44]from rfl,this];show a0I (Lib.join ((m::t).map a1b) [59]) (d++[[]++l]) [] 0 1=_;rw[aoM,acO (m::t) (d++[l]) oz (fun x hx=>h x (by simp[hx])) (by simp at hd⊢;omega)];simp
theorem aeI(s:ByteArray)(t:List (List Int)):a1J s=some t↔vld t=true/\a27 t=s.data.toList:=by
 unfold a1J;constructor
 ·intro h;split at h
  ·cases h
  split at h
  ·rename_i hc
   cases h
   simpa using hc
  cases h
 rintro⟨h1,h2⟩;have hV:=(vld_iff t).1 h1
 have hh:=hV.hi;have hlo:=hV.lo
 have:=acO t [] (by intro e;subst e;simp at hlo) (fun l hl=>by
  obtain⟨a,b,c⟩:=hV.wave l hl;exact⟨by intro e;subst e;simp at a,b,c⟩) (by simpa using hh)
 rw[<-h2,show a27 t=Lib.join (t.map a1b) [59]from rfl,this];simp[h1,a27]
theorem par_same(s:ByteArray):parP s=a1J s:=by
 cases h:a1J s with
 | none=>
  cases h2:parP s with
  |none=>rfl
  |some t=>
   have:=(aeI s t).2 ((aeG s t).1 h2)
   rw[h]at this;cases this
 |some t=>exact(aeG s t).2 ((aeI s t).1 h)
end Go.Proofs.YtdfkaijeppdhaaaGreatDoor.Td
