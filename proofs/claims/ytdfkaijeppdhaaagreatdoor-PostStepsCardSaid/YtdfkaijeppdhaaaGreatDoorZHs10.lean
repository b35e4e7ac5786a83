/- Part of the proof. -/
import Derived.Test.YtdfkaijeppdhaaaGreatDoorZHs09
import Derived.Test.YtdfkaijeppdhaaaGreatDoorZHs07
import Derived.Deep.DrawnRows

set_option maxRecDepth 100000
set_option maxHeartbeats 8000000

namespace Go.Proofs.YtdfkaijeppdhaaaGreatDoor
open Lib (hid)
open Proofs.Tryz Go.RowKit Go.Shelf
theorem a52{w:World}{K:Nat}{G:List Nat}{b:a00}(h:BookAt w K G b):∃vs,BookIs w K vs b/\G=a2V (vs 0) (vs 1) (vs 2) (vs 3):=by
 obtain⟨v0,v1,v2,v3,hK,h0,h1,h2,h3,rfl,hn⟩:=h;refine⟨fun i=>if i=0 then v0 else if i=1 then v1 else if i=2 then v2 else v3,⟨hK,fun i hi=>?_,fun i j hi hj hij g hg hg2=>?_⟩,rfl⟩
 ·rcases (show i=0\/i=1\/i=2\/i=3 by omega)with rfl|rfl|rfl|rfl<;>assumption
 unfold a2V at hn;simp only[List.nodup_append,aoI,Option.mem_toList]at hn;obtain⟨_,⟨_,⟨_,_,n23⟩,n12⟩,n01⟩:=hn;rcases (show i=0\/i=1\/i=2\/i=3 by omega)with rfl|rfl|rfl|rfl<;>
 rcases (show j=0\/j=1\/j=2\/j=3 by omega)with rfl|rfl|rfl|rfl<;>
 first
 |exact hij rfl
 |exact n01 g hg g (.inl hg2) rfl
 |exact n01 g hg g (.inr (.inl hg2)) rfl
 |exact n01 g hg g (.inr (.inr hg2)) rfl
 |exact n01 g hg2 g (.inl hg) rfl
 |exact n01 g hg2 g (.inr (.inl hg)) rfl
 |exact n01 g hg2 g (.inr (.inr hg)) rfl
 |exact n12 g hg g (.inl hg2) rfl
 |exact n12 g hg g (.inr hg2) rfl
 |exact n12 g hg2 g (.inl hg) rfl
 |exact n12 g hg2 g (.inr hg) rfl
 |exact n23 g hg g hg2 rfl
 |exact n23 g hg2 g hg rfl
theorem a62(o:Option Nat):o.toList.Nodup:=by cases o<;>simp
theorem BookIs.at{w:World}{K:Nat}{vs:Nat->Value}{b:a00}(h:BookIs w K vs b):BookAt w K (a2V (vs 0) (vs 1) (vs 2) (vs 3)) b:=by
 refine⟨vs 0,vs 1,vs 2,vs 3,h.cells,h.list 0 om,h.list 1 om,h.list 2 om,h.list 3 om,rfl,?_⟩;unfold a2V;simp only[List.nodup_append,aoI,Option.mem_toList];refine⟨a62 _,⟨a62 _,⟨a62 _,a62 _,fun a ha c hc e=>?_⟩,fun a ha c hc e=>?_⟩,fun a ha c hc e=>?_⟩
 ·subst e;exact h.apart 2 3 om om om a ha hc
 ·subst e;rcases hc with hc|hc
  ·exact h.apart 1 2 om om om a ha hc
  exact h.apart 1 3 om om om a ha hc
 subst e;rcases hc with hc|hc|hc
 ·exact h.apart 0 1 om om om a ha hc
 ·exact h.apart 0 2 om om om a ha hc
 exact h.apart 0 3 om om om a ha hc
theorem mem_blks{vs:Nat->Value}{k:Nat}:k∈a2V (vs 0) (vs 1) (vs 2) (vs 3)↔∃i,i<4/\(vs i).ownBlock=some k:=by
 unfold a2V;simp only[aoI,Option.mem_toList];refine⟨fun h=>?_,fun⟨i,hi,h⟩=>?_⟩
 ·rcases h with h|h|h|h
  ·exact⟨0,om,h⟩
  ·exact⟨1,om,h⟩
  ·exact⟨2,om,h⟩
  exact⟨3,om,h⟩
 rcases (show i=0\/i=1\/i=2\/i=3 by omega)with rfl|rfl|rfl|rfl
 ·exact .inl h
 ·exact .inr (.inl h)
 ·exact .inr (.inr (.inl h))
 exact .inr (.inr (.inr h))
theorem BookIs.keep{w w':World}{K:Nat}{vs:Nat->Value}{b:a00}(h:BookIs w K vs b)(hK:w'.heap[K]? =w.heap[K]?)(hv:∀i,i<4->∀k,(vs i).ownBlock=some k->w'.heap[k]? =w.heap[k]?):BookIs w' K vs b:=
 ⟨hK.trans h.cells,fun i hi=>(h.list i hi).keep (hv i hi),h.apart⟩
theorem BookIs.lt{w:World}{K:Nat}{vs:Nat->Value}{b:a00}(h:BookIs w K vs b):K<w.heap.size:=(aog.1 h.cells).1
theorem BookIs.below{w w':World}{K:Nat}{vs:Nat->Value}{b:a00}(h:BookIs w K vs b)(hb:Below w.heap.size w w'):BookIs w' K vs b:=
 h.keep (hb.block _ h.lt) fun i hi k hk=>hb.block k ((h.list i hi).lt hk)
theorem BookIs.ne{w:World}{K:Nat}{vs:Nat->Value}{b:a00}(h:BookIs w K vs b){i:Nat}(hi:i<4){g:Nat}(hg:(vs i).ownBlock=some g):g≠K:=fun e=>by
 subst e;rcases (h.list i hi).2 with⟨h1,_⟩|⟨g',cap',cur,h1,_,h2,_⟩
 ·rw[h1]at hg;cases hg
 rw[h1]at hg;have:g'=g:=by simpa [Value.ownBlock]using hg
 subst this;rw[h.cells]at h2;simp at h2
theorem a5B(K:Nat)(vs:Nat->Value)(b:a00)(e:Ent)(w:World)(h:BookIs w K vs b)(hok:a02 b):
  Calls prog 55 #[.pointer (some ⟨K,0,none⟩),a3j e] w (if follows b e then a4y K vs b e w else ade w):=by
 by_cases h1:betw 0 (a07 e) 3=true
 ·by_cases h2:betw 1 (a0a e) 1000000=true
  ·by_cases h3:a0n (a0b e)=true
   ·have hp:=(betw_iff _ _ _).1 h1
    have hc:=(betw_iff _ _ _).1 h2
    obtain⟨ep,num,cnt,line⟩:=e;obtain⟨p,rfl⟩:∃p:Nat,ep=(p:Int):=⟨ep.toNat,(apF hp.1).symm⟩
    have hp4:p<4:=by have:=hp.2;simp only[a07]at this;omega
    have hlen:=(hok p hp4).len
    have hf:=a1B b ((p:Int),num,cnt,line);simp only[a07,a0r,a0a,a0b,aoY]at hf hc h3;by_cases h4:num=((b p).length:Int)+1
    ·by_cases h5:(b p).length=60
     ·rw[if_neg (by rw[hf];exact fun h=>h.2.2.2.2.2.2.1 h5)];exact aaj K vs b p hp4 num cnt line hc h3 w h hlen (.inr h5)
     by_cases h6:(b p).length=0
     ·rw[if_pos (by rw[hf];exact⟨om,om,hc.1,hc.2,h3,h4,h5,.inl h6⟩),h4];exact aiK K vs b p hp4 cnt line hc h3 w h om h6
     by_cases h7:a0o (b p)<cnt
     ·rw[if_pos (by rw[hf];exact⟨om,om,hc.1,hc.2,h3,h4,h5,.inr h7⟩),h4];exact akR K vs b p hp4 cnt line hc h3 w h om om h7
     rw[if_neg (by rw[hf];exact fun h=>h.2.2.2.2.2.2.2.elim h6 h7),h4];exact aiJ K vs b p hp4 cnt line hc h3 w h om om om
    rw[if_neg (by rw[hf];exact fun h=>h4 h.2.2.2.2.2.1)];exact aaj K vs b p hp4 num cnt line hc h3 w h hlen (.inl h4)
   rw[if_neg (by rw[a1B];exact fun h=>h3 h.2.2.2.2.1)];exact a9w K e (.inr (.inr (by simpa using h3))) w
  rw[if_neg (by rw[a1B];exact fun h=>h2 ((betw_iff _ _ _).2 ⟨h.2.2.1,h.2.2.2.1⟩))];exact a9w K e (.inr (.inl (by simpa using h2))) w
 rw[if_neg (by rw[a1B];exact fun h=>h1 ((betw_iff _ _ _).2 ⟨h.1,h.2.1⟩))];exact a9w K e (.inl (by simpa using h1)) w
theorem a4R{b:a00}(hok:a02 b){n:Nat}(hn:n<4){line:ByteArray}(hl:a0n line=true):follows b (a1h b n line)=true↔((b n).length<60/\a1f b<1000000):=by
 have hlen:=(hok n hn).len
 have hc:=a4w hok;have hlast:=a91 b hn;have e1:a07 (a1h b n line)=(n:Int):=rfl;have e2:a0r (a1h b n line)=((b n).length:Int)+1:=rfl;have e3:a0a (a1h b n line)=a1f b+1:=rfl;have e4:a0b (a1h b n line)=line:=rfl;rw[a1B,e1,e2,e3,e4,aoY];constructor
 ·rintro⟨_,_,_,h4,_,_,h7,_⟩;omega
 rintro⟨h1,h2⟩;exact⟨om,om,om,om,hl,rfl,om,.inr om⟩
def a6y(P n:Nat)(F:List Nat)(r:ByteArray×Int×a00)(w:World)(e:Ending)(w':World):Prop:=
 e= .returned (.tuple #[.string r.1,.int .i64 r.2.1])/\∃F',PostAt w' P F' n r.2.2/\a2q w F F'/\Off F w w'
theorem a2e(w:World)(F:List Nat):a2q w F F:=fun _ h=>.inl h
theorem amj(P n:Nat)(F:List Nat)(b:a00)(line:ByteArray)(hs:line.size<=1000000)(w:World)(h:PostAt w P F n b)(hV:Vars w)(hd:Cmd.deedO (a08 line)=false):
  Calls prog 24 #[.pointer (some ⟨P,0,none⟩),.string line] w (a6y P n F (emp,100,b) w):=by
 have HP:=hid h;obtain⟨K,G,hP,hB,hF⟩:=id h;have HN:=hid (a0T P K n _ w hP);have HA:=hid (a1U line hs w hV);have HD:=hid hd;clear h hP hB hF hV hd;unfold emp;go_enter func24,ntmps24;go_wp2_with fail
 refine HN.out.mono ?_;rintro e w1 ⟨rfl,rfl⟩;go_wp2_with fail
 refine HA.out.mono ?_;rintro e w1 ⟨⟨pv,rfl,hpv⟩,hb1⟩;have hta:=a3c hpv w1;rw[HD.out]at hta;unfold ifV at hta;simp only[Bool.false_eq_true,if_false]at hta;have HB1:=hid hb1;clear hpv hb1;go_wp2;go_ret2;exact⟨rfl,F,HP.out.below HB1.out,a2e _ _,Off.of_below HB1.out⟩
theorem aiL{w W3 w4 w7:World}{N n:Nat}{vs:Nat->Value}{b:a00}{e:Ent}{v':Value}{F:List Nat}(hb:Below w.heap.size w W3)(ha:Added N n vs b e W3 v' w4)(hown:∀k,(vs n).ownBlock=some k->k∈F)(hN:w.heap.size<=N)(h47:Below w4.heap.size w4 w7):Off F w w7:=by
 have h1:=hb.size;have h2:=ha.size;have h3:=h47.size;refine⟨h47.os.trans (ha.os.trans hb.os),h47.tape.trans (ha.tape.trans hb.tape),h47.output.trans (ha.output.trans hb.output),om,fun k hk hF=>?_⟩;exact(h47.block k om).trans ((ha.block k om om (fun e2=>hF (hown k e2))).trans (hb.block k hk))
theorem adE{w W3 w4 w7:World}{N n P K:Nat}{vs:Nat->Value}{b:a00}{e:Ent}{v':Value}{F:List Nat}(hn:n<4)(hb:Below w.heap.size w W3)(ha:Added N n vs b e W3 v' w4)(hF:F=P::K::a2V (vs 0) (vs 1) (vs 2) (vs 3))(hN:w.heap.size<=N)(hN3:N<W3.heap.size)(h47:Below w4.heap.size w4 w7)
  (hS:BookIs w K vs b)(hP:w.heap[P]? =some (.cells #[.pointer (some ⟨K,0,none⟩),.int .i64 n] 81 (0,0))):
  ∃F',PostAt (w7.setCell ⟨P,0,none⟩ (.pointer (some ⟨N,0,none⟩))) P F' n (a0H b n e)/\a2q w F F'/\Off F w (w7.setCell ⟨P,0,none⟩ (.pointer (some ⟨N,0,none⟩))):=by
 have h1:=hb.size;have h2:=ha.size;have h3:=h47.size;have hPlt:P<w.heap.size:=(aog.1 hP).1
 have hown:∀k,(vs n).ownBlock=some k->k∈F:=fun k hk=>by
  rw[hF];simp only[aov];exact .inr (.inr (mem_blks.2 ⟨n,hn,hk⟩))
 have hoff:=aiL hb ha hown hN h47
 have hnP:∀i,i<4->∀k,(vs i).ownBlock=some k->k≠P:=fun i hi k hk e2=>by
  subst e2;rcases (hS.list i hi).2 with⟨h5,_⟩|⟨g',cap',cur,h5,_,h6,_⟩
  ·rw[h5]at hk;cases hk
  rw[h5]at hk;have:g'=k:=by simpa [Value.ownBlock]using hk
  subst this;rw[hP]at h6;simp at h6
 have hP7:w7.heap[P]? =some (.cells #[.pointer (some ⟨K,0,none⟩),.int .i64 n] 81 (0,0)):=
  (h47.block P om).trans ((ha.block P om om (fun e2=>hnP n hn P e2 rfl)).trans ((hb.block P hPlt).trans hP))
 have hset:∀k,k≠P->(w7.setCell ⟨P,0,none⟩ (.pointer (some ⟨N,0,none⟩))).heap[k]? =w7.heap[k]? :=fun k hk=>aok _ _ _ k hk
 have hPx:(w7.setCell ⟨P,0,none⟩ (.pointer (some ⟨N,0,none⟩))).heap[P]? =some (.cells #[.pointer (some ⟨N,0,none⟩),.int .i64 n] 81 (0,0)):=by
  obtain⟨hlt,hk⟩:=aog.1 hP7;show (w7.heap.modify P _)[P]? =_;rw[aoD (by rw[apm];exact hlt),ap0,hk];simp
 have hvlt:∀i,i<4->∀k,(vs i).ownBlock=some k->k<w.heap.size:=fun i hi k hk=>(hS.list i hi).lt hk
 have hown':∀k,v'.ownBlock=some k->(vs n).ownBlock=some k\/W3.heap.size<=k:=fun k hk=>by
  rcases ha.own with h5|⟨g,h5,h6⟩
  ·exact .inl (by rw[<-h5];exact hk)
  rw[h5]at hk;injection hk with hk;exact .inr om
 have hSV:BookIs (w7.setCell ⟨P,0,none⟩ (.pointer (some ⟨N,0,none⟩))) N (a1m vs n v') (a0H b n e):=by
  have hv4:∀k,v'.ownBlock=some k->k<w4.heap.size:=fun k hk=>ha.new.lt hk
  have hvP:∀k,v'.ownBlock=some k->k≠P:=fun k hk=>by
   rcases hown' k hk with h5|h5
   ·exact hnP n hn k h5
   omega
  refine⟨(hset N om).trans ((h47.block N om).trans ha.cells),fun i hi=>?_,fun i j hi hj hij g hg hg2=>?_⟩
  ·by_cases e2:i=n
   ·subst e2;rw[a0D];unfold a0H;rw[a3n];exact ha.new.keep fun k hk=>(hset k (hvP k hk)).trans (h47.block k (hv4 k hk))
   rw[a0m _ _ e2];unfold a0H;rw[a2U _ _ e2];exact(ha.old i hi).keep fun k hk=>(hset k (hnP i hi k hk)).trans (h47.block k (by have:=hvlt i hi k hk;omega))
  by_cases ei:i=n
  ·subst ei;rw[a0D]at hg;rw[a0m _ _ (Ne.symm hij)]at hg2;rcases hown' g hg with h5|h5
   ·exact hS.apart i j hi hj hij g h5 hg2
   have:=hvlt j hj g hg2;omega
  rw[a0m _ _ ei]at hg;by_cases ej:j=n
  ·subst ej;rw[a0D]at hg2;rcases hown' g hg2 with h5|h5
   ·exact hS.apart i j hi hj hij g hg h5
   have:=hvlt i hi g hg;omega
  rw[a0m _ _ ej]at hg2;exact hS.apart i j hi hj hij g hg hg2
 refine⟨P::N::a2V (a1m vs n v' 0) (a1m vs n v' 1) (a1m vs n v' 2) (a1m vs n v' 3),⟨N,_,hPx,hSV.at,rfl⟩,fun k hk=>?_,⟨hoff.os,hoff.tape,hoff.output,by rw[aos];exact hoff.size,fun k hk hF2=>?_⟩⟩
 ·rcases aov.1 hk with rfl|hk
  ·exact .inl (by rw[hF];simp)
  rcases aov.1 hk with rfl|hk
  ·exact .inr hN
  obtain⟨i,hi,h5⟩:=mem_blks.1 hk;by_cases ei:i=n
  ·subst ei;rw[a0D]at h5;rcases hown' k h5 with h6|h6
   ·exact .inl (hown k h6)
   exact .inr om
  rw[a0m _ _ ei]at h5;exact .inl (by rw[hF];simp only[aov];exact .inr (.inr (mem_blks.2 ⟨i,hi,h5⟩)))
 exact(hset k (fun e2=>hF2 (by rw[hF,e2];simp))).trans (hoff.block k hk hF2)
theorem amw{w4 w7:World}{P K n:Nat}{vs:Nat->Value}{b:a00}{F:List Nat}(hF:F=P::K::a2V (vs 0) (vs 1) (vs 2) (vs 3))(hS:BookIs w4 K vs b)(hP:w4.heap[P]? =some (.cells #[.pointer (some ⟨K,0,none⟩),.int .i64 n] 81 (0,0)))(h47:Below w4.heap.size w4 w7):PostAt w7 P F n b:=by
 have:PostAt w4 P F n b:=⟨K,_,hP,hS.at,hF⟩
 exact this.below h47
theorem aqb(P n:Nat)(hn:n<4)(F:List Nat)(b:a00)(line:ByteArray)(hs:line.size<=1000000)(w:World)(h:PostAt w P F n b)(hok:a02 b)(hV:Vars w)(hfree:∀k∈F,¬a1z k)(c:Cmd)(hc:a08 line=some c)(hd:c.deed=true):
  Calls prog 24 #[.pointer (some ⟨P,0,none⟩),.string line] w (a6y P n F (doB b n line) w):=by
 have HP:=hid h;obtain⟨K,G,hP,hB,hF⟩:=id h;have HN:=hid (a0T P K n _ w hP);have HA:=hid (a1U line hs w hV);have HDC:=hid (And.intro hc hd);have HOK:=hid hok;have HPC:=hid hP;obtain⟨vs,hvs,hG⟩:=a52 hB;have HVS:=hid hvs;have HFG:=hid (And.intro hF hG);have HVR:=hid hV;have HFREE:=hid hfree;obtain⟨la,lc,hl⟩:=hvs.slice hn;have hlen:=(hok n hn).len
 have hcnt:=a4w hok;clear h hP hB hF hG hV hd hc hok hvs hfree;obtain⟨R,hR⟩:∃R,R=doB b n line:=⟨_,rfl⟩
 have HR:=hid hR;rw[<-hR];clear hR;go_enter func24,ntmps24;go_wp2_with fail
 refine HN.out.mono ?_;rintro e w1 ⟨rfl,rfl⟩;go_wp2_with fail
 refine HA.out.mono ?_;rintro e w1 ⟨⟨pv,rfl,hpv⟩,hb1⟩;have hta:=a3c hpv w1;rw[HDC.out.1]at hta hpv;have HPV:=hid hpv;rw[show Cmd.deedO (some c)=true from HDC.out.2]at hta;unfold ifV at hta;simp only[if_true]at hta;have HB1:=hid hb1;have HP1:=hid ((hb1.block P (aog.1 HPC.out).1).trans HPC.out);have HS1:=hid (HVS.out.below hb1);have HV1:=hid (HVR.out.below hb1);clear hpv hb1;go_wp2
 have HCT:=hid (fun W (hW:KB w1 W)=>a4V K _ b W (HS1.out.at.keep (fun k hk=>hW.block k (by
  rcases hk with rfl|hk
  ·exact HS1.out.lt
  exact HS1.out.at.lt hk))) (fun i hi=>(HOK.out i hi).len))
 have r0:∀W,KB w1 W->W.cell? ⟨P,0,none⟩=some (.pointer (some ⟨K,0,none⟩)):=fun W hW=>keep_cell hW (heap_cell HP1.out rfl);have r1:∀W,KB w1 W->W.cell? ⟨P,1,none⟩=some (.int .i64 (n:Int)):=fun W hW=>keep_cell hW (heap_cell HP1.out rfl);have r2:∀W,KB w1 W->W.cell? ⟨K,n,none⟩=some (.slice la (b n).length lc):=fun W hW=>by rw[<-hl];exact keep_cell hW (HS1.out.cell hn)
 have HL:=hid hl;clear hl;generalize hbl:(b n).length=bl at *
 have HBL:=hid hbl;clear hbl;generalize hct:a1f b=ct at *;have HCTE:=hid hct;clear hct;have i1:(0:Int)<=(n:Int):=om;have i2:(n:Int)<4:=om;have v1:IntKind.i64.wrap ((bl:Int)+1)=(bl:Int)+1:=IntWalk.i64_in _ om;have v2:IntKind.i64.wrap (ct+1)=ct+1:=IntWalk.i64_in _ om
 go_region_held3 (fun W=>KB w1 W) (first|exact KB.drew (KB.refl _)|assumption|(unfold KB at *;repeat (first|assumption|exact aoi _ _|refine Below.setCell ?_ (by first|omega|(simp;done)|(simp;omega)) _|refine Below.drew ?_ |refine Below.alloc ?_ (by first|omega|(simp;done)|(simp;omega)) _))|fail) (first
  |(go_at_call 53;refine(HCT.out _ (by first|exact KB.drew (KB.refl _)|assumption|(unfold KB;exact(aoi _ _).alloc (aof _) _)|(unfold KB;exact((aoi _ _).alloc (aof _) _).drew))).mono ?_;rintro e w2 ⟨rfl,rfl⟩)
  |fail)
 all_goals (
  obtain⟨W2,hW2⟩:∃W2,W2=(w1.alloc (.cells #[.int .i64 (n:Int),.int .i64 ((bl:Int)+1),.int .i64 (ct+1),.string line] 43)).drew:=⟨_,rfl⟩
  rw[<-hW2];have HB2:Hid (Below w1.heap.size w1 W2):=hid (by rw[hW2];exact((aoi _ _).alloc (aof _) _).drew);have HE2:Hid (W2.heap[w1.heap.size]? =some (.cells #[.int .i64 (n:Int),.int .i64 ((bl:Int)+1),.int .i64 (ct+1),.string line] 43 (0,0))):=hid (by rw[hW2];exact World.alloc_heap_new w1 _);have HS2:=hid (HS1.out.below HB2.out);have HP2:=hid ((HB2.out.block P (aog.1 HP1.out).1).trans HP1.out);clear hW2 r0 r1 r2;obtain⟨a0,k0,hq0⟩:=HS2.out.slice (p:=0) om;obtain⟨a1,k1,hq1⟩:=HS2.out.slice (p:=1) om;obtain⟨a2,k2,hq2⟩:=HS2.out.slice (p:=2) om;obtain⟨a3,k3,hq3⟩:=HS2.out.slice (p:=3) om;have x0:=HS2.out.cell (i:=0) om;have x1:=HS2.out.cell (i:=1) om;have x2:=HS2.out.cell (i:=2) om;have x3:=HS2.out.cell (i:=3) om;rw[hq0]at x0;rw[hq1]at x1;rw[hq2]at x2;rw[hq3]at x3;have HQ:=hid (And.intro hq0 (And.intro hq1 (And.intro hq2 hq3)));clear hq0 hq1 hq2 hq3;have y0:=heap_cell (j:=0) HP2.out rfl;obtain⟨o3,ho3⟩:∃o3:Obj,o3= .cells #[.slice a0 (b 0).length k0,.slice a1 (b 1).length k1,.slice a2 (b 2).length k2,.slice a3 (b 3).length k3] 96:=⟨_,rfl⟩
  have hb3:Below W2.heap.size W2 (W2.alloc o3):=(aoi _ _).alloc (aof _) _
  have e0:=keep_cell hb3 (heap_cell (j:=0) HE2.out rfl);have e1:=keep_cell hb3 (heap_cell (j:=1) HE2.out rfl);have e2:=keep_cell hb3 (heap_cell (j:=2) HE2.out rfl);have e3:=keep_cell hb3 (heap_cell (j:=3) HE2.out rfl);have HB3:=hid hb3;clear hb3;rw[ho3]at e0 e1 e2 e3;have HO3:=hid ho3;clear ho3;go_wp2_with fail
  rw[<-HO3.out]
  have HS3:Hid (BookIs (W2.alloc o3) W2.heap.size vs b):=hid ⟨by
   have:=World.alloc_heap_new W2 o3;rw[this,HO3.out,HQ.out.1,HQ.out.2.1,HQ.out.2.2.1,HQ.out.2.2.2],fun i hi=>(HS2.out.list i hi).keep fun k hk=>HB3.out.block k ((HS2.out.list i hi).lt hk),HS2.out.apart⟩
  have HS3K:=hid (HS2.out.below HB3.out);have HP3:=hid ((HB3.out.block P (aog.1 HP2.out).1).trans HP2.out);have HAD:=hid (a5B W2.heap.size vs b (a1h b n line) (W2.alloc o3) HS3.out HOK.out);have HEV:Hid (a3j (a1h b n line)= .agg #[.int .i64 (n:Int),.int .i64 ((bl:Int)+1),.int .i64 (ct+1),.string line]):=hid (by rw[<-HBL.out,<-HCTE.out];rfl);rw[HEV.out]at HAD;have HB13:=hid (below_trans HB1.out (below_trans HB2.out HB3.out));clear e0 e1 e2 e3 x0 x1 x2 x3 y0;have HFN:=hid (a4R HOK.out hn (a4d HDC.out.1 HDC.out.2));rw[HBL.out,HCTE.out]at HFN;cases hfo:follows b (a1h b n line)with
  | false=>
   have HRX:Hid (R=(emp,4,b)):=hid (by
    rw[HR.out];unfold doB;rw[HDC.out.1];simp only;rw[if_neg (by rw[HDC.out.2];decide),if_pos];rw[HBL.out,HCTE.out];have h9:¬(bl<60/\ct<1000000):=fun h=>by rw[HFN.out.2 h]at hfo;cases hfo
    omega)
   rw[hfo]at HAD;simp only[Bool.false_eq_true,if_false]at HAD;clear hfo;refine HAD.out.mono ?_;rintro e w4 ⟨rfl,hb4⟩;have HB4:=hid hb4;clear hb4;go_wp2;go_ret2;rw[HRX.out];have hB:=HB13.out.trans (HB4.out.mono HB13.out.size);exact⟨rfl,F,HP.out.below hB,a2e _ _,Off.of_below hB⟩
  | true=>
   rw[hfo]at HAD;simp only[if_true]at HAD;have hlim:=HFN.out.1 hfo;have HLIM:=hid hlim;clear hfo hlim;refine HAD.out.mono ?_;rintro e w4 ⟨rfl,v',hadd⟩;have HADD:=hid hadd;clear hadd
   have HNX:Hid (∀k,(vs n).ownBlock=some k->k≠K/\k≠P/\¬a1z k):=hid (fun k hk=>by
    refine⟨HVS.out.ne hn hk,fun e=>?_,?_⟩
    ·subst e;rcases (HVS.out.list n hn).2 with⟨h1,_⟩|⟨g',cap',cur,h1,_,h2,_⟩
     ·rw[h1]at hk;cases hk
     rw[h1]at hk;have:g'=k:=by simpa [Value.ownBlock]using hk
     subst this;rw[HPC.out]at h2;simp at h2
    refine HFREE.out k ?_;rw[HFG.out.1,HFG.out.2];simp only[aov];exact .inr (.inr (mem_blks.2 ⟨n,hn,hk⟩)))
   have HSZ:Hid (W2.heap.size<(W2.alloc o3).heap.size):=hid (by rw[aoq];omega);have HEP:Hid ((a07 (a1h b n line)).toNat=n):=hid (aoY n);have HBK:Hid (∀k,k<W2.heap.size->(vs n).ownBlock≠some k->w4.heap[k]? =(W2.alloc o3).heap[k]?):=hid (fun k hk h9=>HADD.out.block k (by have:=HSZ.out;omega) om (by rw[HEP.out];exact h9));have HS4:Hid (BookIs w4 K vs b):=hid ⟨(HBK.out K HS2.out.lt (fun e=>(HNX.out K e).1 rfl)).trans HS3K.out.cells,HADD.out.old,HS2.out.apart⟩;have HP4:=hid ((HBK.out P (aog.1 HP2.out).1 (fun e=>(HNX.out P e).2.1 rfl)).trans HP3.out);have HV4:Hid (Vars w4):=hid ((HV1.out.below (below_trans HB2.out HB3.out)).keep fun k hk=>HBK.out k (by have h8:=(HV1.out.below HB2.out).lt hk;exact h8) (fun e=>(HNX.out k e).2.2 hk));have r4:∀W,KB w4 W->W.cell? ⟨P,0,none⟩=some (.pointer (some ⟨K,0,none⟩)):=fun W hW=>keep_cell hW (heap_cell HP4.out rfl);have HALL:=hid (fun W (hW:KB w4 W)=>a4f K _ b W (HS4.out.below hW).at HOK.out);have HENT:Hid (∀e∈a06 b,(a0b e).size<=60):=hid (fun e he=>((a1d _).1 (by rw[<-a1I];exact(a0y HOK.out he).2.2.2)).1);have HLEN:Hid ((a06 b).length<=1000):=hid (by rw[a1j];have:=a1X HOK.out;omega);have HSTK:=hid (a4x (a06 b) HLEN.out);clear hta;go_wp2;cases c with
   | put nm tx=>
    obtain rfl:pv=_:=HPV.out;have hme:∀w,(method 462 136 (.agg #[.string nm,.string tx]) "skimmer/post.say").run prog w= .ok (284,.agg #[.string nm,.string tx]) w:=fun w=>aad _ w
    have hah:∀w,(nilAhead 462 136 (.agg #[.string nm,.string tx]) "skimmer/post.say").run prog w= .ok (some false) w:=fun w=>aiD _ w
    have HNM:=hid ((Cmd.names_small HDC.out.1).1 nm tx rfl);have HPF:Hid (∀W,KB w4 W->W.cell? ⟨P,0,none⟩=some (.pointer (some ⟨K,0,none⟩))/\W.frozen? ⟨P,0,none⟩=false):=hid (fun W hW=>⟨keep_cell hW (heap_cell HP4.out rfl),by have h9:=(hW.block P (aog.1 HP4.out).1).trans HP4.out;simp[World.frozen?,h9]⟩)
    have HRX:Hid (R=(tx,0,a0H b n (a1h b n line))):=hid (by
     rw[HR.out];unfold doB;rw[HDC.out.1];simp only;rw[if_neg (by rw[HDC.out.2];decide),if_neg (by rw[HBL.out,HCTE.out];have:=HLIM.out;omega)];rfl)
    go_region_held3 (fun W=>KB w4 W) (first|exact KB.refl _|exact KB.drew (KB.refl _)|assumption|exact KB.drew (by assumption)|fail) (first
     |(go_at_call 57;refine(HALL.out _ (by first|exact KB.refl _|exact KB.drew (KB.refl _)|assumption)).mono ?_;rintro e w5 ⟨v5,rfl,hl5,ho5,hb5⟩;have q5:KB w4 w5:=KB.call (KB.drew (KB.refl _)) hb5;have HSY:=hid (a3Z v5 (a06 b) w5 (hl5.ents (by have:=HLEN.out;omega)) HLEN.out HENT.out (HV4.out.below q5));clear hl5 ho5 hb5)
     |(go_at_call 56;refine HSY.out.mono ?_;rintro e w6 ⟨ka,kb,rfl,hk6,hka,hkb,hb6⟩;have q6:KB w4 w6:=KB.call q5 hb6;have HK6:=hid hk6;have HKA:=hid (And.intro (aor q5.size hka) (aor q5.size hkb));have HV6:=hid (HV4.out.below q6);clear hk6 hka hkb hb6)
     |(go_at_call 284;refine(afR ka kb _ _ nm tx (by have:=HNM.out;omega) HLEN.out _ HK6.out).mono ?_;rintro e w7 ⟨he7,hk7,ho7⟩;obtain rfl:e= .returned (.tuple #[.string tx,.int .i64 0]):=he7;have q7:KB w4 w7:=a4Y q6 q6.size ho7 (by have:=HKA.out;simp;omega);have c7:=(HPF.out _ q7).1;have f7:=(HPF.out _ q7).2;clear hk7 ho7)
     |fail)
    all_goals go_wp2
    all_goals go_ret2
    all_goals (
     rw[HRX.out];obtain⟨F',h1,h2,h3⟩:=adE (P:=P) hn HB13.out (by have h9:=HADD.out;rw[HEP.out]at h9;exact h9) (HFG.out.1.trans (by rw[HFG.out.2])) (aor HB1.out.size HB2.out.size) HSZ.out q7 HVS.out HPC.out;exact⟨rfl,F',h1,h2,h3⟩)
   | add nm mm=>
    obtain rfl:pv=_:=HPV.out;have hme:∀w,(method 462 143 (.agg #[.string nm,.int .i64 mm]) "skimmer/post.say").run prog w= .ok (287,.agg #[.string nm,.int .i64 mm]) w:=fun w=>aae _ w
    have hah:∀w,(nilAhead 462 143 (.agg #[.string nm,.int .i64 mm]) "skimmer/post.say").run prog w= .ok (some false) w:=fun w=>aiE _ w
    have HNM:=hid ((Cmd.names_small HDC.out.1).2.2.1 nm mm rfl);have HPF:Hid (∀W,KB w4 W->W.cell? ⟨P,0,none⟩=some (.pointer (some ⟨K,0,none⟩))/\W.frozen? ⟨P,0,none⟩=false):=hid (fun W hW=>⟨keep_cell hW (heap_cell HP4.out rfl),by have h9:=(hW.block P (aog.1 HP4.out).1).trans HP4.out;simp[World.frozen?,h9]⟩)
    have HRX:Hid (R=(itoaB ((a0e (a06 b)).stk nm+mm),0,a0H b n (a1h b n line))):=hid (by
     rw[HR.out];unfold doB;rw[HDC.out.1];simp only;rw[if_neg (by rw[HDC.out.2];decide),if_neg (by rw[HBL.out,HCTE.out];have:=HLIM.out;omega)];rfl)
    go_region_held3 (fun W=>KB w4 W) (first|exact KB.refl _|exact KB.drew (KB.refl _)|assumption|exact KB.drew (by assumption)|fail) (first
     |(go_at_call 57;refine(HALL.out _ (by first|exact KB.refl _|exact KB.drew (KB.refl _)|assumption)).mono ?_;rintro e w5 ⟨v5,rfl,hl5,ho5,hb5⟩;have q5:KB w4 w5:=KB.call (KB.drew (KB.refl _)) hb5;have HSY:=hid (a3Z v5 (a06 b) w5 (hl5.ents (by have:=HLEN.out;omega)) HLEN.out HENT.out (HV4.out.below q5));clear hl5 ho5 hb5)
     |(go_at_call 56;refine HSY.out.mono ?_;rintro e w6 ⟨ka,kb,rfl,hk6,hka,hkb,hb6⟩;have q6:KB w4 w6:=KB.call q5 hb6;have HK6:=hid hk6;have HKA:=hid (And.intro (aor q5.size hka) (aor q5.size hkb));have HV6:=hid (HV4.out.below q6);clear hk6 hka hkb hb6)
     |(go_at_call 287;refine(afS ka kb _ _ nm mm (by have:=HNM.out;omega) HLEN.out (HSTK.out nm) HNM.out.2 _ HV6.out HK6.out (fun h9=>by have h8:=HV4.out.lt h9;have:=HKA.out;omega) (fun h9=>by have h8:=HV4.out.lt h9;have:=HKA.out;omega)).mono ?_;rintro e w7 ⟨he7,hk7,ho7⟩;obtain rfl:e= .returned (.tuple #[.string (itoaB ((a0e (a06 b)).stk nm+mm)),.int .i64 0]):=he7;have q7:KB w4 w7:=a4Y q6 q6.size ho7 (by have:=HKA.out;simp;omega);have c7:=(HPF.out _ q7).1;have f7:=(HPF.out _ q7).2;clear hk7 ho7)
     |fail)
    all_goals go_wp2
    all_goals go_ret2
    all_goals (
     rw[HRX.out];obtain⟨F',h1,h2,h3⟩:=adE (P:=P) hn HB13.out (by have h9:=HADD.out;rw[HEP.out]at h9;exact h9) (HFG.out.1.trans (by rw[HFG.out.2])) (aor HB1.out.size HB2.out.size) HSZ.out q7 HVS.out HPC.out;exact⟨rfl,F',h1,h2,h3⟩)
   | drop nm=>
    cases htx:(a0e (a06 b)).txt nm with
    | some tx=>
     have HTX:=hid htx;clear htx;obtain rfl:pv=_:=HPV.out;have hme:∀w,(method 462 138 (.agg #[.string nm]) "skimmer/post.say").run prog w= .ok (285,.agg #[.string nm]) w:=fun w=>a6m _ w
     have hah:∀w,(nilAhead 462 138 (.agg #[.string nm]) "skimmer/post.say").run prog w= .ok (some false) w:=fun w=>aaf _ w
     have HNM:=hid ((Cmd.names_small HDC.out.1).2.1 nm rfl);have HPF:Hid (∀W,KB w4 W->W.cell? ⟨P,0,none⟩=some (.pointer (some ⟨K,0,none⟩))/\W.frozen? ⟨P,0,none⟩=false):=hid (fun W hW=>⟨keep_cell hW (heap_cell HP4.out rfl),by have h9:=(hW.block P (aog.1 HP4.out).1).trans HP4.out;simp[World.frozen?,h9]⟩)
     have HRX:Hid (R=(tx,0,a0H b n (a1h b n line))):=hid (by
      rw[HR.out];unfold doB;rw[HDC.out.1];simp only;rw[if_neg (by rw[HDC.out.2];decide),if_neg (by rw[HBL.out,HCTE.out];have:=HLIM.out;omega)];simp only[a19,HTX.out];rfl)
     go_region_held3 (fun W=>KB w4 W) (first|exact KB.refl _|exact KB.drew (KB.refl _)|assumption|exact KB.drew (by assumption)|fail) (first
      |(go_at_call 57;refine(HALL.out _ (by first|exact KB.refl _|exact KB.drew (KB.refl _)|assumption)).mono ?_;rintro e w5 ⟨v5,rfl,hl5,ho5,hb5⟩;have q5:KB w4 w5:=KB.call (KB.drew (KB.refl _)) hb5;have HSY:=hid (a3Z v5 (a06 b) w5 (hl5.ents (by have:=HLEN.out;omega)) HLEN.out HENT.out (HV4.out.below q5));clear hl5 ho5 hb5)
      |(go_at_call 56;refine HSY.out.mono ?_;rintro e w6 ⟨ka,kb,rfl,hk6,hka,hkb,hb6⟩;have q6:KB w4 w6:=KB.call q5 hb6;have HK6:=hid hk6;have HKA:=hid (And.intro (aor q5.size hka) (aor q5.size hkb));have HV6:=hid (HV4.out.below q6);clear hk6 hka hkb hb6)
      |(go_at_call 285;refine(a9v ka kb _ _ nm (by have:=HNM.out;omega) HLEN.out _ HK6.out).mono ?_;rintro e w7 ⟨he7,hk7,ho7⟩;obtain rfl:e= .returned (.tuple #[.string tx,.int .i64 0]):=(by rw[he7];simp only[a19,HTX.out]);have q7:KB w4 w7:=a4Y q6 q6.size ho7 (by have:=HKA.out;simp;omega);have c7:=(HPF.out _ q7).1;have f7:=(HPF.out _ q7).2;clear hk7 ho7)
      |fail)
     all_goals go_wp2
     all_goals go_ret2
     all_goals (
      rw[HRX.out];obtain⟨F',h1,h2,h3⟩:=adE (P:=P) hn HB13.out (by have h9:=HADD.out;rw[HEP.out]at h9;exact h9) (HFG.out.1.trans (by rw[HFG.out.2])) (aor HB1.out.size HB2.out.size) HSZ.out q7 HVS.out HPC.out;exact⟨rfl,F',h1,h2,h3⟩)
    | none=>
     have HTX:=hid htx;clear htx;obtain rfl:pv=_:=HPV.out;have hme:∀w,(method 462 138 (.agg #[.string nm]) "skimmer/post.say").run prog w= .ok (285,.agg #[.string nm]) w:=fun w=>a6m _ w
     have hah:∀w,(nilAhead 462 138 (.agg #[.string nm]) "skimmer/post.say").run prog w= .ok (some false) w:=fun w=>aaf _ w
     have HNM:=hid ((Cmd.names_small HDC.out.1).2.1 nm rfl);have HPF:Hid (∀W,KB w4 W->W.cell? ⟨P,0,none⟩=some (.pointer (some ⟨K,0,none⟩))/\W.frozen? ⟨P,0,none⟩=false):=hid (fun W hW=>⟨keep_cell hW (heap_cell HP4.out rfl),by have h9:=(hW.block P (aog.1 HP4.out).1).trans HP4.out;simp[World.frozen?,h9]⟩)
     have HRX:Hid (R=(emp,5,b)):=hid (by
      rw[HR.out];unfold doB;rw[HDC.out.1];simp only;rw[if_neg (by rw[HDC.out.2];decide),if_neg (by rw[HBL.out,HCTE.out];have:=HLIM.out;omega)];simp only[a19,HTX.out];rfl)
     go_region_held3 (fun W=>KB w4 W) (first|exact KB.refl _|exact KB.drew (KB.refl _)|assumption|exact KB.drew (by assumption)|fail) (first
      |(go_at_call 57;refine(HALL.out _ (by first|exact KB.refl _|exact KB.drew (KB.refl _)|assumption)).mono ?_;rintro e w5 ⟨v5,rfl,hl5,ho5,hb5⟩;have q5:KB w4 w5:=KB.call (KB.drew (KB.refl _)) hb5;have HSY:=hid (a3Z v5 (a06 b) w5 (hl5.ents (by have:=HLEN.out;omega)) HLEN.out HENT.out (HV4.out.below q5));clear hl5 ho5 hb5)
      |(go_at_call 56;refine HSY.out.mono ?_;rintro e w6 ⟨ka,kb,rfl,hk6,hka,hkb,hb6⟩;have q6:KB w4 w6:=KB.call q5 hb6;have HK6:=hid hk6;have HKA:=hid (And.intro (aor q5.size hka) (aor q5.size hkb));have HV6:=hid (HV4.out.below q6);clear hk6 hka hkb hb6)
      |(go_at_call 285;refine(a9v ka kb _ _ nm (by have:=HNM.out;omega) HLEN.out _ HK6.out).mono ?_;rintro e w7 ⟨he7,hk7,ho7⟩;obtain rfl:e= .returned (.tuple #[.string ⟨#[]⟩,.int .i64 5]):=(by rw[he7];simp only[a19,HTX.out];rfl);have q7:KB w4 w7:=a4Y q6 q6.size ho7 (by have:=HKA.out;simp;omega);have c7:=(HPF.out _ q7).1;have f7:=(HPF.out _ q7).2;clear hk7 ho7)
      |fail)
     all_goals go_wp2
     all_goals go_ret2
     all_goals (
      rw[HRX.out];exact⟨rfl,F,amw (HFG.out.1.trans (by rw[HFG.out.2])) HS4.out HP4.out q7,a2e _ _,aiL HB13.out (by have h9:=HADD.out;rw[HEP.out]at h9;exact h9) (fun k hk=>by rw[HFG.out.1,HFG.out.2];simp only[aov];exact .inr (.inr (mem_blks.2 ⟨n,hn,hk⟩))) (aor HB1.out.size HB2.out.size) q7⟩)
   |_=>cases (show false=true from HDC.out.2))
end Go.Proofs.YtdfkaijeppdhaaaGreatDoor
