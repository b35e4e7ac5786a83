/- Part of the proof. -/
import Derived.Test.YtdfkaijeppdhaaaGreatDoorZHs05
import Derived.Laws.EntriesVeiled

set_option maxRecDepth 100000
set_option maxHeartbeats 8000000

namespace Go.Proofs.YtdfkaijeppdhaaaGreatDoor
open Lib (hid)
open Proofs.Tryz Go.RowKit Go.Shelf
def IntsAt(w:World)(v:Value)(l:List Int):Prop:=
 ∃(a:Option Addr) (cap:Nat),v= .slice a l.length cap/\l.length<=9223372036854775807/\
  (0<l.length->∃b off,a=some ⟨b,off,none⟩/\∀i,i<l.length->w.cell? ⟨b,off+i,none⟩=some (.int .i64 (l.getD i 0)))
theorem IntsAt.below{w w':World}{v:Value}{l:List Int}(h:IntsAt w v l)(hb:Below w.heap.size w w'):IntsAt w' v l:=by
 obtain⟨a,cap,rfl,hl,h⟩:=h;refine⟨a,cap,rfl,hl,fun h0=>?_⟩;obtain⟨b,off,ha,hc⟩:=h h0;exact⟨b,off,ha,fun i hi=>keep_cell hb (hc i hi)⟩
theorem a2Y{base:Nat}{w:World}{v:Value}{l:List Int}(h:w.ownsRow base 3 1 v l.length (l.map (Value.int .i64)))(hl:l.length<=9223372036854775807):IntsAt w v l:=by
 rcases h.2 with⟨rfl,h0⟩|⟨g,cap,cur,rfl,hrest⟩
 ·exact⟨none,0,by rw[h0],hl,fun h1=>om⟩
 refine⟨some ⟨g,0,none⟩,cap,rfl,hl,fun _=>⟨g,0,rfl,fun j hj=>?_⟩⟩;have:=h.cellAt j om;rw[ap5,this,apr,aoj hj,aoh,aoj hj];rfl
def a5k(k:Nat):Nat:=if k=0 then 116 else if k=1 then 117 else if k=2 then 118 else 119
def ao3(w:World)(v:Value):Cmd->Prop
 | .put n t=>v= .iface 136 (.agg #[.string n,.string t])
 | .drop n=>v= .iface 138 (.agg #[.string n])
 | .add n m=>v= .iface 143 (.agg #[.string n,.int .i64 m])
 | .stock n=>v= .iface 139 (.agg #[.string n])
 | .share n l=>∃s,v= .iface 146 (.agg #[.int .i64 n,s])/\StrsAt w s l
 | .asked k l ns=>∃a b,v= .iface 185 (.agg #[a,b,.func (.func (a5k k)) #[] #[]])/\StrsAt w a l/\IntsAt w b ns
def CmdO(w:World)(v:Value):Option Cmd->Prop
 |none=>v= .nilIface
 |some c=>ao3 w v c
def a1a(w:World)(o:Option Cmd)(e:Ending)(w':World):Prop:=(∃v,e= .returned v/\CmdO w' v o)/\Below w.heap.size w w'
theorem CmdO.below{w w':World}{v:Value}{o:Option Cmd}(h:CmdO w v o)(hb:Below w.heap.size w w'):CmdO w' v o:=by
 cases o with
 |none=>exact h
 |some c=>
  cases c with
  |share n l=>obtain⟨s,h1,h2⟩:=h;exact⟨s,h1,h2.below hb⟩
  |asked k l ns=>obtain⟨a,b,h1,h2,h3⟩:=h;exact⟨a,b,h1,h2.below hb,h3.below hb⟩
  |_=>exact h
theorem agy(x:ByteArray)(v:Value)(w:World)(h:a3F x=none):
  Calls prog 90 #[.string x,v] w (a1a w none):=by
 have h1:x≠textW:=fun e=>by rw[e]at h;revert h;decide
 have h2:x≠beatW:=fun e=>by rw[e]at h;revert h;decide
 have h3:x≠farW:=fun e=>by rw[e]at h;revert h;decide
 have h4:x≠driftW:=fun e=>by rw[e]at h;revert h;decide
 have k1:=a0W h1;have k2:=a0W h2;have k3:=a0W h3;have k4:=a0W h4;clear h h1 h2 h3 h4;go_enter func90,ntmps90;go_wp2;go_ret;exact⟨⟨_,rfl,rfl⟩,(aoi _ _).alloc (aof _) _⟩
theorem own_shape{base:Nat}{w:World}{e:TypeId}{sz:Nat}{v:Value}{n:Nat}{xs:List Value}(h:w.ownsRow base e sz v n xs):∃a cap,v= .slice a n cap:=by
 rcases h.2 with⟨rfl,h0⟩|⟨g,cap,cur,rfl,_⟩
 ·exact⟨none,0,by rw[h0]⟩
 exact⟨_,_,rfl⟩
def RestAt(w:World)(b off:Nat)(l:List ByteArray):Prop:=∀j,j<l.length->w.cell? ⟨b,off+j,none⟩=some (.string (l.getD j emp))
theorem RestAt.strs{w:World}{b off:Nat}{l:List ByteArray}(h:RestAt w b off l)(hl:l.length<=1000000):StrsAt w (.slice (some ⟨b,off,none⟩) l.length l.length) l:=
 ⟨_,_,rfl,aof _,om,fun _=>⟨b,off,rfl,h⟩⟩
theorem agz{l:List ByteArray}{k j:Nat}(h:j<k)(_hl:k<=l.length):(l.take k).getD j emp=l.getD j emp:=by
 rw[aoh,aoh,List.getElem?_take_of_lt h]
theorem RestAt.take{w:World}{b off:Nat}{l:List ByteArray}(h:RestAt w b off l)(k:Nat)(hk:k<=l.length)(hl:l.length<=2000000):StrsAt w (.slice (some ⟨b,off,none⟩) k l.length) (l.take k):=by
 have hlen:(l.take k).length=k:=by rw[aoy];omega
 refine⟨_,l.length,by rw[hlen],om,om,fun _=>⟨b,off,rfl,fun j hj=>?_⟩⟩;rw[hlen]at hj;rw[h j om,agz hj hk]
theorem RestAt.drop{w:World}{b off:Nat}{l:List ByteArray}(h:RestAt w b off l)(k:Nat):RestAt w b (off+k) (l.drop k):=fun j hj=>by
 rw[aoG]at hj;rw[Nat.add_assoc,h (k+j) om];congr 2;rw[aoh,aoh,List.getElem?_drop]
theorem a3J(w:World)(a:Option Addr)(c:Nat)(hc:c<=1000000):StrsAt w (.slice a 0 c) []:=⟨a,c,rfl,by simp,om,fun h=>by simp at h⟩
theorem RestAt.below{w w':World}{b off:Nat}{l:List ByteArray}(h:RestAt w b off l)(hb:Below w.heap.size w w'):RestAt w' b off l:=fun j hj=>keep_cell hb (h j hj)
theorem a3U{w W:World}{b k:Nat}{v:Value}(h:Below w.heap.size w W)(hb:w.heap.size<=b):Below w.heap.size w (W.setCell ⟨b,k,none⟩ v):=h.setCell (p:=⟨b,k,none⟩) hb v
def a2A(k many:Nat)(l:List ByteArray):Option Cmd:=match (l.take many).all a03,allS a0d (l.drop many)with
 |true,some ns=>some (.asked k (l.take many) ns)
 |_,_=>none
theorem a61{k many:Nat}{l:List ByteArray}(h:(l.take many).all a03=false):a2A k many l=none:=by unfold a2A;rw[h]
theorem a4P{k many:Nat}{l:List ByteArray}(h:allS a0d (l.drop many)=none):a2A k many l=none:=by unfold a2A;rw[h];cases (l.take many).all a03<;>rfl
theorem a4Q{k many:Nat}{l:List ByteArray}{ns:List Int}(h1:(l.take many).all a03=true)(h:allS a0d (l.drop many)=some ns):a2A k many l=some (.asked k (l.take many) ns):=by unfold a2A;rw[h,h1]
theorem Boxed.set3{W:World}{B:Nat}{a b c:Value}{t:TypeId}(h:W.heap[B]? =some (.cells #[a,b,c] t (0,0)))(i:Nat)(v:Value):(W.setCell ⟨B,i,none⟩ v).heap[B]? =some (.cells (#[a,b,c].setIfInBounds i v) t (0,0)):=by
 obtain⟨hlt,hk⟩:=aog.1 h;show (W.heap.modify B _)[B]? =_;rw[aoD (by rw[apm];exact hlt),ap0,hk];simp
theorem a3r{w w':World}{base:Nat}{e:TypeId}{size:Nat}{v:Value}{n:Nat}{xs:List Value}(h:w.ownsRow base e size v n xs)(hk:∀k,base<=k->w'.heap[k]? =w.heap[k]?):w'.ownsRow base e size v n xs:=by
 refine⟨h.1,?_⟩;rcases h.2 with hn|⟨g,cap,cur,hv,hbg,hg,hrest⟩
 ·exact .inl hn
 exact .inr ⟨g,cap,cur,hv,hbg,(hk g hbg).trans hg,hrest⟩
theorem acW(b off n:Nat)(hn:n≠1)(_hn2:n<=1000000)(w:World):
  Calls prog 90 #[.string textW,.slice (some ⟨b,off,none⟩) n n] w (a1a w none):=by
 unfold textW;have hx:((n:Int) != 1)=true:=by simp;omega
 go_enter func90,ntmps90;go_wp2;go_ret;exact⟨⟨_,rfl,rfl⟩,(aoi _ _).alloc (aof _) _⟩
theorem acX(b off n:Nat)(hn:n≠1)(_hn2:n<=1000000)(w:World):
  Calls prog 90 #[.string beatW,.slice (some ⟨b,off,none⟩) n n] w (a1a w none):=by
 unfold beatW;have hx:((n:Int) != 1)=true:=by simp;omega
 go_enter func90,ntmps90;go_wp2;go_ret;exact⟨⟨_,rfl,rfl⟩,(aoi _ _).alloc (aof _) _⟩
theorem adu(b off n:Nat)(hn:n≠2)(_hn2:n<=1000000)(w:World):
  Calls prog 90 #[.string farW,.slice (some ⟨b,off,none⟩) n n] w (a1a w none):=by
 unfold farW;have hx:((n:Int) != 2)=true:=by simp;omega
 go_enter func90,ntmps90;go_wp2;go_ret;exact⟨⟨_,rfl,rfl⟩,(aoi _ _).alloc (aof _) _⟩
theorem abu(b off n:Nat)(hn:n≠3)(_hn2:n<=1000000)(w:World):
  Calls prog 90 #[.string driftW,.slice (some ⟨b,off,none⟩) n n] w (a1a w none):=by
 unfold driftW;have hx:((n:Int) != 3)=true:=by simp;omega
 go_enter func90,ntmps90;go_wp2;go_ret;exact⟨⟨_,rfl,rfl⟩,(aoi _ _).alloc (aof _) _⟩
theorem acY(b off:Nat)(l:List ByteArray)(hn:l.length=1)(hsz:∀x∈l,x.size<=281474976710656)(w:World)(hr:RestAt w b off l)(hV:Vars w):
  Calls prog 90 #[.string textW,.slice (some ⟨b,off,none⟩) 1 1] w (a1a w (a2A 0 1 l)):=by
 unfold textW;have HR:=hid hr;have HV:=hid hV;have HN:=hid hn;have HNM:=hid (fun W (h:Below w.heap.size w W)=>a4e _ _ W ((hr.below h).take 1 om om))
 have HNU:=hid (fun W (h:Below w.heap.size w W)=>a2F (.slice (some ⟨b,off,none⟩) 0 0) (l.drop 1) (by rw[aoG];omega) (fun x hx=>hsz x (aq5 hx)) W
  (by
   have hd:=(hr.below h).drop 1
   have hld:(l.drop 1).length=1-1:=by rw[aoG,hn]
   first
   |(have hs:=hd.strs om;rw[hld]at hs;exact hs)
   |(rw[aoz.1 hld];exact a3J _ _ _ om)) (hV.below h))
 rw[hn]at HNM;clear hr hV hn hsz;obtain⟨O,hO0⟩:∃O,O=a2A 0 1 l:=⟨_,rfl⟩
 have HOO:=hid hO0;rw[<-hO0];clear hO0;go_enter func90,ntmps90;go_wp2_with fail
 have hb0:Below w.heap.size w ((w.alloc (.cells #[.slice none 0 0,.slice none 0 0,.func (.func 116) #[] #[]] 185))):=(aoi _ _).alloc (aof _) _
 have hO:=World.alloc_heap_new w (.cells #[.slice none 0 0,.slice none 0 0,.func (.func 116) #[] #[]] 185);refine(HNM.out _ hb0).mono ?_
 rintro e w1 ⟨rfl,hb1⟩;have hO1:=(hb1.block _ oz).trans hO
 have HB1:=hid (below_trans hb0 hb1);have hz1:w.heap.size<w1.heap.size:=by have:=hb1.size;simp at this;omega
 clear hb0 hb1 hO;obtain⟨nv,hnv⟩:∃nv,nv=a3k ((l.take 1).all a03) (.slice (some ⟨b,off,none⟩) 1 1):=⟨_,rfl⟩
 have HNVV:=hid hnv;rw[<-hnv];have hsh:∃a n c,nv= .slice a n c:=by rw[hnv];unfold a3k;split<;>exact⟨_,_,_,rfl⟩
 clear hnv;obtain⟨na,nn,nc,rfl⟩:=hsh;have c0:=heap_cell (j:=0) hO1 rfl;have c1:=heap_cell (j:=1) hO1 rfl;have f0:w1.frozen? ⟨w.heap.size,0,none⟩=false:=by simp[World.frozen?,hO1]
 have HO1:=hid hO1;clear hO1;obtain⟨bn,hbn⟩:∃bn,bn=(l.take 1).all a03:=⟨_,rfl⟩
 have HBN:=hid hbn;rw[<-hbn];clear hbn;go_wp2_with fail
 have hB2:=a3U (b:=w.heap.size) (k:=0) (v:=.slice na nn nc) HB1.out (aof _);refine(HNU.out _ hB2).mono ?_
 rintro e w2 ⟨hr2,hb2⟩
 have hO2:w2.heap[w.heap.size]? =some (.cells #[.slice na nn nc,.slice none 0 0,.func (.func 116) #[] #[]] 185 (0,0)):=(hb2.block _ (by simpa using hz1)).trans (by
  have:=Boxed.set3 HO1.out 0 (.slice na nn nc);simpa using this)
 have c20:=heap_cell (j:=0) hO2 rfl;have c21:=heap_cell (j:=1) hO2 rfl;have c22:=heap_cell (j:=2) hO2 rfl;have f20:w2.frozen? ⟨w.heap.size,1,none⟩=false:=by simp[World.frozen?,hO2]
 have HB2:=hid (hB2.trans (hb2.mono km));have HB3:Hid (∀v,Below w.heap.size w (w2.setCell ⟨w.heap.size,1,none⟩ v)):=hid (fun v=>HB2.out.setCell (p:=⟨w.heap.size,1,none⟩) (aof _) _)
 have hR:∃a n c,∃bb,e= .returned (.tuple #[.slice a n c,.bool bb])/\Hid (bb=(allS a0d (l.drop 1)).isSome/\∀ns,allS a0d (l.drop 1)=some ns->∀u,IntsAt (w2.setCell ⟨w.heap.size,1,none⟩ u) (.slice a n c) ns):=by
  cases hx:allS a0d (l.drop 1)with
  |some ns=>
   rw[hx]at hr2;obtain⟨v,rfl,ho⟩:=hr2;obtain⟨a,c,rfl⟩:=own_shape ho;have hl2:=allS_len _ _ _ hx;rw[aoG,HN.out]at hl2;exact⟨_,_,_,_,rfl,hid ⟨rfl,fun ns' h u=>by cases h;exact a2Y (a3r ho (fun k hk=>aok _ _ _ _ (by simp only[aos]at hk;show k≠w.heap.size;omega))) om⟩⟩
  |none=>rw[hx]at hr2;exact⟨_,_,_,_,hr2,hid ⟨rfl,fun ns' h u=>by cases h⟩⟩
 obtain⟨ra,rn,rc,rb,rfl,HRR⟩:=hR;clear hr2 hB2 hb2 hO2 c0 c1 f0;cases bn with
 |false=>
  go_wp2;go_ret;exact⟨⟨_,rfl,by rw[HOO.out,a61 HBN.out.symm];rfl⟩,HB3.out _⟩
 | true=>
  cases rb with
  |false=>
   go_wp2;go_ret;exact⟨⟨_,rfl,by rw[HOO.out,a4P (by have:=HRR.out.1;cases hx:allS a0d (l.drop 1)with|none=>rfl|some ns=>rw[hx]at this;cases this)];rfl⟩,HB3.out _⟩
  | true=>
   go_wp2;go_ret;have h1:=HRR.out;cases hx:allS a0d (l.drop 1)with
   |none=>rw[hx]at h1;cases h1.1
   |some ns=>
    refine⟨⟨_,rfl,?_⟩,HB3.out _⟩;rw[HOO.out,a4Q HBN.out.symm hx];have h2:=HNVV.out;rw[<-HBN.out]at h2;refine⟨.slice na nn nc,.slice ra rn rc,rfl,?_,h1.2 ns hx _⟩;rw[h2];exact(HR.out.below (HB3.out _)).take 1 (by rw[HN.out];omega) (by rw[HN.out];omega) |> (fun h=>by rw[HN.out]at h;exact h)
theorem acZ(b off:Nat)(l:List ByteArray)(hn:l.length=1)(hsz:∀x∈l,x.size<=281474976710656)(w:World)(hr:RestAt w b off l)(hV:Vars w):
  Calls prog 90 #[.string beatW,.slice (some ⟨b,off,none⟩) 1 1] w (a1a w (a2A 1 1 l)):=by
 unfold beatW;have HR:=hid hr;have HV:=hid hV;have HN:=hid hn;have HNM:=hid (fun W (h:Below w.heap.size w W)=>a4e _ _ W ((hr.below h).take 1 om om))
 have HNU:=hid (fun W (h:Below w.heap.size w W)=>a2F (.slice (some ⟨b,off,none⟩) 0 0) (l.drop 1) (by rw[aoG];omega) (fun x hx=>hsz x (aq5 hx)) W
  (by
   have hd:=(hr.below h).drop 1
   have hld:(l.drop 1).length=1-1:=by rw[aoG,hn]
   first
   |(have hs:=hd.strs om;rw[hld]at hs;exact hs)
   |(rw[aoz.1 hld];exact a3J _ _ _ om)) (hV.below h))
 rw[hn]at HNM;clear hr hV hn hsz;obtain⟨O,hO0⟩:∃O,O=a2A 1 1 l:=⟨_,rfl⟩
 have HOO:=hid hO0;rw[<-hO0];clear hO0;go_enter func90,ntmps90;go_wp2_with fail
 have hb0:Below w.heap.size w ((w.alloc (.cells #[.slice none 0 0,.slice none 0 0,.func (.func 117) #[] #[]] 185))):=(aoi _ _).alloc (aof _) _
 have hO:=World.alloc_heap_new w (.cells #[.slice none 0 0,.slice none 0 0,.func (.func 117) #[] #[]] 185);refine(HNM.out _ hb0).mono ?_
 rintro e w1 ⟨rfl,hb1⟩;have hO1:=(hb1.block _ oz).trans hO
 have HB1:=hid (below_trans hb0 hb1);have hz1:w.heap.size<w1.heap.size:=by have:=hb1.size;simp at this;omega
 clear hb0 hb1 hO;obtain⟨nv,hnv⟩:∃nv,nv=a3k ((l.take 1).all a03) (.slice (some ⟨b,off,none⟩) 1 1):=⟨_,rfl⟩
 have HNVV:=hid hnv;rw[<-hnv];have hsh:∃a n c,nv= .slice a n c:=by rw[hnv];unfold a3k;split<;>exact⟨_,_,_,rfl⟩
 clear hnv;obtain⟨na,nn,nc,rfl⟩:=hsh;have c0:=heap_cell (j:=0) hO1 rfl;have c1:=heap_cell (j:=1) hO1 rfl;have f0:w1.frozen? ⟨w.heap.size,0,none⟩=false:=by simp[World.frozen?,hO1]
 have HO1:=hid hO1;clear hO1;obtain⟨bn,hbn⟩:∃bn,bn=(l.take 1).all a03:=⟨_,rfl⟩
 have HBN:=hid hbn;rw[<-hbn];clear hbn;go_wp2_with fail
 have hB2:=a3U (b:=w.heap.size) (k:=0) (v:=.slice na nn nc) HB1.out (aof _);refine(HNU.out _ hB2).mono ?_
 rintro e w2 ⟨hr2,hb2⟩
 have hO2:w2.heap[w.heap.size]? =some (.cells #[.slice na nn nc,.slice none 0 0,.func (.func 117) #[] #[]] 185 (0,0)):=(hb2.block _ (by simpa using hz1)).trans (by
  have:=Boxed.set3 HO1.out 0 (.slice na nn nc);simpa using this)
 have c20:=heap_cell (j:=0) hO2 rfl;have c21:=heap_cell (j:=1) hO2 rfl;have c22:=heap_cell (j:=2) hO2 rfl;have f20:w2.frozen? ⟨w.heap.size,1,none⟩=false:=by simp[World.frozen?,hO2]
 have HB2:=hid (hB2.trans (hb2.mono km));have HB3:Hid (∀v,Below w.heap.size w (w2.setCell ⟨w.heap.size,1,none⟩ v)):=hid (fun v=>HB2.out.setCell (p:=⟨w.heap.size,1,none⟩) (aof _) _)
 have hR:∃a n c,∃bb,e= .returned (.tuple #[.slice a n c,.bool bb])/\Hid (bb=(allS a0d (l.drop 1)).isSome/\∀ns,allS a0d (l.drop 1)=some ns->∀u,IntsAt (w2.setCell ⟨w.heap.size,1,none⟩ u) (.slice a n c) ns):=by
  cases hx:allS a0d (l.drop 1)with
  |some ns=>
   rw[hx]at hr2;obtain⟨v,rfl,ho⟩:=hr2;obtain⟨a,c,rfl⟩:=own_shape ho;have hl2:=allS_len _ _ _ hx;rw[aoG,HN.out]at hl2;exact⟨_,_,_,_,rfl,hid ⟨rfl,fun ns' h u=>by cases h;exact a2Y (a3r ho (fun k hk=>aok _ _ _ _ (by simp only[aos]at hk;show k≠w.heap.size;omega))) om⟩⟩
  |none=>rw[hx]at hr2;exact⟨_,_,_,_,hr2,hid ⟨rfl,fun ns' h u=>by cases h⟩⟩
 obtain⟨ra,rn,rc,rb,rfl,HRR⟩:=hR;clear hr2 hB2 hb2 hO2 c0 c1 f0;cases bn with
 |false=>
  go_wp2;go_ret;exact⟨⟨_,rfl,by rw[HOO.out,a61 HBN.out.symm];rfl⟩,HB3.out _⟩
 | true=>
  cases rb with
  |false=>
   go_wp2;go_ret;exact⟨⟨_,rfl,by rw[HOO.out,a4P (by have:=HRR.out.1;cases hx:allS a0d (l.drop 1)with|none=>rfl|some ns=>rw[hx]at this;cases this)];rfl⟩,HB3.out _⟩
  | true=>
   go_wp2;go_ret;have h1:=HRR.out;cases hx:allS a0d (l.drop 1)with
   |none=>rw[hx]at h1;cases h1.1
   |some ns=>
    refine⟨⟨_,rfl,?_⟩,HB3.out _⟩;rw[HOO.out,a4Q HBN.out.symm hx];have h2:=HNVV.out;rw[<-HBN.out]at h2;refine⟨.slice na nn nc,.slice ra rn rc,rfl,?_,h1.2 ns hx _⟩;rw[h2];exact(HR.out.below (HB3.out _)).take 1 (by rw[HN.out];omega) (by rw[HN.out];omega) |> (fun h=>by rw[HN.out]at h;exact h)
theorem adv(b off:Nat)(l:List ByteArray)(hn:l.length=2)(hsz:∀x∈l,x.size<=281474976710656)(w:World)(hr:RestAt w b off l)(hV:Vars w):
  Calls prog 90 #[.string farW,.slice (some ⟨b,off,none⟩) 2 2] w (a1a w (a2A 2 2 l)):=by
 unfold farW;have HR:=hid hr;have HV:=hid hV;have HN:=hid hn;have HNM:=hid (fun W (h:Below w.heap.size w W)=>a4e _ _ W ((hr.below h).take 2 om om))
 have HNU:=hid (fun W (h:Below w.heap.size w W)=>a2F (.slice (some ⟨b,off,none⟩) 0 0) (l.drop 2) (by rw[aoG];omega) (fun x hx=>hsz x (aq5 hx)) W
  (by
   have hd:=(hr.below h).drop 2
   have hld:(l.drop 2).length=2-2:=by rw[aoG,hn]
   first
   |(have hs:=hd.strs om;rw[hld]at hs;exact hs)
   |(rw[aoz.1 hld];exact a3J _ _ _ om)) (hV.below h))
 rw[hn]at HNM;clear hr hV hn hsz;obtain⟨O,hO0⟩:∃O,O=a2A 2 2 l:=⟨_,rfl⟩
 have HOO:=hid hO0;rw[<-hO0];clear hO0;go_enter func90,ntmps90;go_wp2_with fail
 have hb0:Below w.heap.size w ((w.alloc (.cells #[.slice none 0 0,.slice none 0 0,.func (.func 118) #[] #[]] 185))):=(aoi _ _).alloc (aof _) _
 have hO:=World.alloc_heap_new w (.cells #[.slice none 0 0,.slice none 0 0,.func (.func 118) #[] #[]] 185);refine(HNM.out _ hb0).mono ?_
 rintro e w1 ⟨rfl,hb1⟩;have hO1:=(hb1.block _ oz).trans hO
 have HB1:=hid (below_trans hb0 hb1);have hz1:w.heap.size<w1.heap.size:=by have:=hb1.size;simp at this;omega
 clear hb0 hb1 hO;obtain⟨nv,hnv⟩:∃nv,nv=a3k ((l.take 2).all a03) (.slice (some ⟨b,off,none⟩) 2 2):=⟨_,rfl⟩
 have HNVV:=hid hnv;rw[<-hnv];have hsh:∃a n c,nv= .slice a n c:=by rw[hnv];unfold a3k;split<;>exact⟨_,_,_,rfl⟩
 clear hnv;obtain⟨na,nn,nc,rfl⟩:=hsh;have c0:=heap_cell (j:=0) hO1 rfl;have c1:=heap_cell (j:=1) hO1 rfl;have f0:w1.frozen? ⟨w.heap.size,0,none⟩=false:=by simp[World.frozen?,hO1]
 have HO1:=hid hO1;clear hO1;obtain⟨bn,hbn⟩:∃bn,bn=(l.take 2).all a03:=⟨_,rfl⟩
 have HBN:=hid hbn;rw[<-hbn];clear hbn;go_wp2_with fail
 have hB2:=a3U (b:=w.heap.size) (k:=0) (v:=.slice na nn nc) HB1.out (aof _);refine(HNU.out _ hB2).mono ?_
 rintro e w2 ⟨hr2,hb2⟩
 have hO2:w2.heap[w.heap.size]? =some (.cells #[.slice na nn nc,.slice none 0 0,.func (.func 118) #[] #[]] 185 (0,0)):=(hb2.block _ (by simpa using hz1)).trans (by
  have:=Boxed.set3 HO1.out 0 (.slice na nn nc);simpa using this)
 have c20:=heap_cell (j:=0) hO2 rfl;have c21:=heap_cell (j:=1) hO2 rfl;have c22:=heap_cell (j:=2) hO2 rfl;have f20:w2.frozen? ⟨w.heap.size,1,none⟩=false:=by simp[World.frozen?,hO2]
 have HB2:=hid (hB2.trans (hb2.mono km));have HB3:Hid (∀v,Below w.heap.size w (w2.setCell ⟨w.heap.size,1,none⟩ v)):=hid (fun v=>HB2.out.setCell (p:=⟨w.heap.size,1,none⟩) (aof _) _)
 have hR:∃a n c,∃bb,e= .returned (.tuple #[.slice a n c,.bool bb])/\Hid (bb=(allS a0d (l.drop 2)).isSome/\∀ns,allS a0d (l.drop 2)=some ns->∀u,IntsAt (w2.setCell ⟨w.heap.size,1,none⟩ u) (.slice a n c) ns):=by
  cases hx:allS a0d (l.drop 2)with
  |some ns=>
   rw[hx]at hr2;obtain⟨v,rfl,ho⟩:=hr2;obtain⟨a,c,rfl⟩:=own_shape ho;have hl2:=allS_len _ _ _ hx;rw[aoG,HN.out]at hl2;exact⟨_,_,_,_,rfl,hid ⟨rfl,fun ns' h u=>by cases h;exact a2Y (a3r ho (fun k hk=>aok _ _ _ _ (by simp only[aos]at hk;show k≠w.heap.size;omega))) om⟩⟩
  |none=>rw[hx]at hr2;exact⟨_,_,_,_,hr2,hid ⟨rfl,fun ns' h u=>by cases h⟩⟩
 obtain⟨ra,rn,rc,rb,rfl,HRR⟩:=hR;clear hr2 hB2 hb2 hO2 c0 c1 f0;cases bn with
 |false=>
  go_wp2;go_ret;exact⟨⟨_,rfl,by rw[HOO.out,a61 HBN.out.symm];rfl⟩,HB3.out _⟩
 | true=>
  cases rb with
  |false=>
   go_wp2;go_ret;exact⟨⟨_,rfl,by rw[HOO.out,a4P (by have:=HRR.out.1;cases hx:allS a0d (l.drop 2)with|none=>rfl|some ns=>rw[hx]at this;cases this)];rfl⟩,HB3.out _⟩
  | true=>
   go_wp2;go_ret;have h1:=HRR.out;cases hx:allS a0d (l.drop 2)with
   |none=>rw[hx]at h1;cases h1.1
   |some ns=>
    refine⟨⟨_,rfl,?_⟩,HB3.out _⟩;rw[HOO.out,a4Q HBN.out.symm hx];have h2:=HNVV.out;rw[<-HBN.out]at h2;refine⟨.slice na nn nc,.slice ra rn rc,rfl,?_,h1.2 ns hx _⟩;rw[h2];exact(HR.out.below (HB3.out _)).take 2 (by rw[HN.out];omega) (by rw[HN.out];omega) |> (fun h=>by rw[HN.out]at h;exact h)
theorem abv(b off:Nat)(l:List ByteArray)(hn:l.length=3)(hsz:∀x∈l,x.size<=281474976710656)(w:World)(hr:RestAt w b off l)(hV:Vars w):
  Calls prog 90 #[.string driftW,.slice (some ⟨b,off,none⟩) 3 3] w (a1a w (a2A 3 1 l)):=by
 unfold driftW;have HR:=hid hr;have HV:=hid hV;have HN:=hid hn;have HNM:=hid (fun W (h:Below w.heap.size w W)=>a4e _ _ W ((hr.below h).take 1 om om))
 have HNU:=hid (fun W (h:Below w.heap.size w W)=>a2F (.slice (some ⟨b,off+1,none⟩) 2 2) (l.drop 1) (by rw[aoG];omega) (fun x hx=>hsz x (aq5 hx)) W
  (by
   have hd:=(hr.below h).drop 1
   have hld:(l.drop 1).length=3-1:=by rw[aoG,hn]
   first
   |(have hs:=hd.strs om;rw[hld]at hs;exact hs)
   |(rw[aoz.1 hld];exact a3J _ _ _ om)) (hV.below h))
 rw[hn]at HNM;clear hr hV hn hsz;obtain⟨O,hO0⟩:∃O,O=a2A 3 1 l:=⟨_,rfl⟩
 have HOO:=hid hO0;rw[<-hO0];clear hO0;go_enter func90,ntmps90;go_wp2_with fail
 have hb0:Below w.heap.size w ((w.alloc (.cells #[.slice none 0 0,.slice none 0 0,.func (.func 119) #[] #[]] 185))):=(aoi _ _).alloc (aof _) _
 have hO:=World.alloc_heap_new w (.cells #[.slice none 0 0,.slice none 0 0,.func (.func 119) #[] #[]] 185);refine(HNM.out _ hb0).mono ?_
 rintro e w1 ⟨rfl,hb1⟩;have hO1:=(hb1.block _ oz).trans hO
 have HB1:=hid (below_trans hb0 hb1);have hz1:w.heap.size<w1.heap.size:=by have:=hb1.size;simp at this;omega
 clear hb0 hb1 hO;obtain⟨nv,hnv⟩:∃nv,nv=a3k ((l.take 1).all a03) (.slice (some ⟨b,off,none⟩) 1 3):=⟨_,rfl⟩
 have HNVV:=hid hnv;rw[<-hnv];have hsh:∃a n c,nv= .slice a n c:=by rw[hnv];unfold a3k;split<;>exact⟨_,_,_,rfl⟩
 clear hnv;obtain⟨na,nn,nc,rfl⟩:=hsh;have c0:=heap_cell (j:=0) hO1 rfl;have c1:=heap_cell (j:=1) hO1 rfl;have f0:w1.frozen? ⟨w.heap.size,0,none⟩=false:=by simp[World.frozen?,hO1]
 have HO1:=hid hO1;clear hO1;obtain⟨bn,hbn⟩:∃bn,bn=(l.take 1).all a03:=⟨_,rfl⟩
 have HBN:=hid hbn;rw[<-hbn];clear hbn;go_wp2_with fail
 have hB2:=a3U (b:=w.heap.size) (k:=0) (v:=.slice na nn nc) HB1.out (aof _);refine(HNU.out _ hB2).mono ?_
 rintro e w2 ⟨hr2,hb2⟩
 have hO2:w2.heap[w.heap.size]? =some (.cells #[.slice na nn nc,.slice none 0 0,.func (.func 119) #[] #[]] 185 (0,0)):=(hb2.block _ (by simpa using hz1)).trans (by
  have:=Boxed.set3 HO1.out 0 (.slice na nn nc);simpa using this)
 have c20:=heap_cell (j:=0) hO2 rfl;have c21:=heap_cell (j:=1) hO2 rfl;have c22:=heap_cell (j:=2) hO2 rfl;have f20:w2.frozen? ⟨w.heap.size,1,none⟩=false:=by simp[World.frozen?,hO2]
 have HB2:=hid (hB2.trans (hb2.mono km));have HB3:Hid (∀v,Below w.heap.size w (w2.setCell ⟨w.heap.size,1,none⟩ v)):=hid (fun v=>HB2.out.setCell (p:=⟨w.heap.size,1,none⟩) (aof _) _)
 have hR:∃a n c,∃bb,e= .returned (.tuple #[.slice a n c,.bool bb])/\Hid (bb=(allS a0d (l.drop 1)).isSome/\∀ns,allS a0d (l.drop 1)=some ns->∀u,IntsAt (w2.setCell ⟨w.heap.size,1,none⟩ u) (.slice a n c) ns):=by
  cases hx:allS a0d (l.drop 1)with
  |some ns=>
   rw[hx]at hr2;obtain⟨v,rfl,ho⟩:=hr2;obtain⟨a,c,rfl⟩:=own_shape ho;have hl2:=allS_len _ _ _ hx;rw[aoG,HN.out]at hl2;exact⟨_,_,_,_,rfl,hid ⟨rfl,fun ns' h u=>by cases h;exact a2Y (a3r ho (fun k hk=>aok _ _ _ _ (by simp only[aos]at hk;show k≠w.heap.size;omega))) om⟩⟩
  |none=>rw[hx]at hr2;exact⟨_,_,_,_,hr2,hid ⟨rfl,fun ns' h u=>by cases h⟩⟩
 obtain⟨ra,rn,rc,rb,rfl,HRR⟩:=hR;clear hr2 hB2 hb2 hO2 c0 c1 f0;cases bn with
 |false=>
  go_wp2;go_ret;exact⟨⟨_,rfl,by rw[HOO.out,a61 HBN.out.symm];rfl⟩,HB3.out _⟩
 | true=>
  cases rb with
  |false=>
   go_wp2;go_ret;exact⟨⟨_,rfl,by rw[HOO.out,a4P (by have:=HRR.out.1;cases hx:allS a0d (l.drop 1)with|none=>rfl|some ns=>rw[hx]at this;cases this)];rfl⟩,HB3.out _⟩
  | true=>
   go_wp2;go_ret;have h1:=HRR.out;cases hx:allS a0d (l.drop 1)with
   |none=>rw[hx]at h1;cases h1.1
   |some ns=>
    refine⟨⟨_,rfl,?_⟩,HB3.out _⟩;rw[HOO.out,a4Q HBN.out.symm hx];have h2:=HNVV.out;rw[<-HBN.out]at h2;refine⟨.slice na nn nc,.slice ra rn rc,rfl,?_,h1.2 ns hx _⟩;rw[h2];exact(HR.out.below (HB3.out _)).take 1 (by rw[HN.out];omega) (by rw[HN.out];omega) |> (fun h=>by rw[HN.out]at h;exact h)
theorem agA:a3F textW=some (0,1,0):=rfl
theorem agB:a3F beatW=some (1,1,0):=rfl
theorem aiu:a3F farW=some (2,2,0):=rfl
theorem af2:a3F driftW=some (3,1,2):=rfl
theorem aiv(x:ByteArray)(b off:Nat)(l:List ByteArray)(hl:l.length<=1000000)(hsz:∀y∈l,y.size<=281474976710656)(w:World)(hr:RestAt w b off l)(hV:Vars w):
  Calls prog 90 #[.string x,.slice (some ⟨b,off,none⟩) l.length l.length] w (a1a w (a2j x l)):=by
 unfold a2j;by_cases h1:x=textW
 ·subst h1;rw[agA];by_cases hn:l.length=1
  ·simp only[hn,ne_eq,not_true,if_false];exact acY b off l hn hsz w hr hV
  simp only[hn,ne_eq,not_false_eq_true,if_true];exact acW b off _ hn hl w
 by_cases h2:x=beatW
 ·subst h2;rw[agB];by_cases hn:l.length=1
  ·simp only[hn,ne_eq,not_true,if_false];exact acZ b off l hn hsz w hr hV
  simp only[hn,ne_eq,not_false_eq_true,if_true];exact acX b off _ hn hl w
 by_cases h3:x=farW
 ·subst h3;rw[aiu];by_cases hn:l.length=2
  ·simp only[hn,ne_eq,not_true,if_false];exact adv b off l hn hsz w hr hV
  simp only[hn,ne_eq,not_false_eq_true,if_true];exact adu b off _ hn hl w
 by_cases h4:x=driftW
 ·subst h4;rw[af2];by_cases hn:l.length=3
  ·simp only[hn,ne_eq,not_true,if_false];exact abv b off l hn hsz w hr hV
  simp only[hn,ne_eq,not_false_eq_true,if_true];exact abu b off _ hn hl w
 have hk:a3F x=none:=by unfold a3F;rw[if_neg h1,if_neg h2,if_neg h3,if_neg h4]
 rw[hk];exact agy x _ w hk
theorem a1T(s:ByteArray)(hs:s.size<=1000000)(w:World)(hV:Vars w){w0 r0:ByteArray}{rs:List ByteArray}(h:splitA 32 s=w0::r0::rs)(m:Nat)(hm:rs.length+1=m):
  Calls prog 84 #[.string s] w fun e w'=>e= .returned (.tuple #[.string w0,.slice (some ⟨w.heap.size,1,none⟩) m m])/\RestAt w' w.heap.size 1 (r0::rs)/\Below w.heap.size w w':=by
 have S:=ac4 s om w hV;rw[h]at S;refine S.mono ?_;rintro e w' ⟨⟨a,c,rfl,hc⟩,hb⟩;subst hm;obtain⟨rfl,rfl,hq⟩:=hc oz;refine⟨rfl,fun j hj=>?_,hb⟩;have:=hq j (by simpa using hj);rw[this];rfl
theorem aiw(s:ByteArray)(hs:s.size<=1000000)(w:World)(hV:Vars w){w0:ByteArray}(h:splitA 32 s=[w0]):
  Calls prog 84 #[.string s] w fun e w'=>(∃a c,e= .returned (.tuple #[.string w0,.slice a 0 c]))/\Below w.heap.size w w':=by
 have S:=ac4 s om w hV;rw[h]at S;refine S.mono ?_;rintro e w' ⟨⟨a,c,rfl,hc⟩,hb⟩;exact⟨⟨a,c,rfl⟩,hb⟩
theorem a11{s w0 r0:ByteArray}{rs:List ByteArray}(h:splitA 32 s=w0::r0::rs):a08 s=a0Y w0 r0 rs s:=by unfold a08;rw[h]
theorem a1l{s w0 r0:ByteArray}{rs:List ByteArray}(hs:s.size<=1000000)(h:splitA 32 s=w0::r0::rs):rs.length+1<=1000000:=by
 have h1:=splitA_len 32 s;rw[h]at h1;have:=aq6 (a:=(32:UInt8)) (l:=s.data.toList);rw[<-a05]at this;simp only[aom]at h1;omega
theorem a2k{s w0 r0:ByteArray}{rs:List ByteArray}(hs:s.size<=1000000)(h:splitA 32 s=w0::r0::rs):∀x∈r0::rs,x.size<=281474976710656:=fun x hx=>by
 have:=a94 (c:=32) (s:=s) (x:=x) (by rw[h];simp only[aov]at hx⊢;exact .inr hx);omega
theorem aix(s:ByteArray)(hs:s.size<=1000000)(w:World)(hV:Vars w){w0:ByteArray}(h:splitA 32 s=[w0]):
  Calls prog 54 #[.string s] w (a1a w (a08 s)):=by
 have hp:a08 s=none:=by unfold a08;rw[h]
 rw[hp];have HS:=hid (aiw s hs w hV h);clear hV h hp;go_enter func54,ntmps54;go_wp2_with fail
 refine HS.out.mono ?_;rintro e w1 ⟨⟨a,c,rfl⟩,hb1⟩;have HB1:=hid hb1;clear hb1;go_wp2;go_ret;exact⟨⟨_,rfl,rfl⟩,HB1.out⟩
theorem af3(s:ByteArray)(hs:s.size<=1000000)(w:World)(hV:Vars w){w0 r0:ByteArray}{rs:List ByteArray}(h:splitA 32 s=w0::r0::rs)
  (n1:w0≠putW)(n2:w0≠dropW)(n3:w0≠stockW)(n4:w0≠addW)(n5:w0≠shareW):
  Calls prog 54 #[.string s] w (a1a w (a08 s)):=by
 have hnl:a08 s=a2j w0 (r0::rs):=by rw[a11 h];unfold a0Y;rw[if_neg n1,if_neg n2,if_neg n3,if_neg n4,if_neg n5]
 have HNL:=hid hnl;have k1:=a0W n1;have k2:=a0W n2;have k3:=a0W n3;have k4:=a0W n4;have k5:=a0W n5;have HS:=hid (a1T s hs w hV h (rs.length+1) rfl);have HL:=hid (a1l hs h);have HSZ:=hid (a2k hs h);have HV:=hid hV;obtain⟨O,hO0⟩:∃O,O=a08 s:=⟨_,rfl⟩
 have HO:=hid (hO0.trans (a11 h));have HH:=hid h;rw[<-hO0];clear hO0 hV h;have hL:=HL.out;have z1:((rs.length:Int)+1==0)=false:=by simp;omega
 have HOL:Hid (O=a2j w0 (r0::rs)):=hid (by rw[HO.out,<-a11 HH.out];exact HNL.out);clear n1 n2 n3 n4 n5 hnl;go_enter func54,ntmps54;go_wp2_with fail
 refine HS.out.mono ?_;rintro e w1 ⟨rfl,hr1,hb1⟩;have c0:w1.cell? ⟨w.heap.size,1,none⟩=some (.string r0):=hr1 0 oz;have HR1:=hid hr1;have HB1:=hid hb1;clear hr1 hb1;go_wp2_with fail
 refine(aiv w0 w.heap.size 1 (r0::rs) (by simp only[aom];exact HL.out) HSZ.out w1 HR1.out (HV.out.below HB1.out)).mono ?_
 rintro e w2 ⟨⟨v,rfl,hv⟩,hb2⟩;have HV2:=hid hv;have HB2:=hid hb2;clear hv hb2;go_wp2;go_ret;exact⟨⟨v,rfl,by rw[HOL.out];exact HV2.out⟩,below_trans HB1.out HB2.out⟩
theorem a7X{r0 s:ByteArray}{rs:List ByteArray}:a0Y dropW r0 rs s=if decide (rs=[])&&a03 r0 then some (.drop r0)else none:=rfl
theorem a6X{r0 s:ByteArray}{rs:List ByteArray}:a0Y stockW r0 rs s=if decide (rs=[])&&a03 r0 then some (.stock r0)else none:=rfl
theorem aa6(s:ByteArray)(hs:s.size<=1000000)(w:World)(hV:Vars w){r0:ByteArray}{rs:List ByteArray}(h:splitA 32 s=dropW::r0::rs)(hr:rs≠[]):
  Calls prog 54 #[.string s] w (a1a w (a08 s)):=by
 have hm:1<=rs.length:=apE.2 hr;have HR0:=hid hr;clear hr;have HS:=hid (a1T s hs w hV h (rs.length+1) rfl);have HL:=hid (a1l hs h);have HSZ:=hid (a2k hs h);have HV:=hid hV;obtain⟨O,hO0⟩:∃O,O=a08 s:=⟨_,rfl⟩
 have HO:=hid (hO0.trans (a11 h));have HH:=hid h;rw[<-hO0];clear hO0 hV h;have HOL:Hid (O=none):=hid (by rw[HO.out,a7X,decide_eq_false HR0.out];rfl);have hL:=HL.out;have z1:((rs.length:Int)+1==0)=false:=by simp;omega
 have z2:((rs.length:Int)+1 != 1)=true:=by simp;omega
 unfold dropW at HS;go_enter func54,ntmps54;go_wp2_with fail
 refine HS.out.mono ?_;rintro e w1 ⟨rfl,hr1,hb1⟩;have c0:w1.cell? ⟨w.heap.size,1,none⟩=some (.string r0):=hr1 0 oz;have HR1:=hid hr1;have HB1:=hid hb1;clear hr1 hb1;go_wp2;go_ret;exact⟨⟨_,rfl,by rw[HOL.out];rfl⟩,HB1.out⟩
theorem abw(s:ByteArray)(hs:s.size<=1000000)(w:World)(hV:Vars w){r0:ByteArray}(h:splitA 32 s=[dropW,r0]):
  Calls prog 54 #[.string s] w (a1a w (a08 s)):=by
 have HS:=hid (a1T s hs w hV h 1 rfl);have HL:=hid (a1l hs h);have HSZ:=hid (a2k hs h);have HV:=hid hV;obtain⟨O,hO0⟩:∃O,O=a08 s:=⟨_,rfl⟩
 have HO:=hid (hO0.trans (a11 h));have HH:=hid h;rw[<-hO0];clear hO0 hV h;have NC:=hid (fun W=>a3I r0 W);unfold dropW at HS;cases hn:a03 r0 with
 |true=>
  rw[hn]at NC;have HOL:Hid (O=some (.drop r0)):=hid (by rw[HO.out,a7X,hn];rfl);clear hn;go_enter func54,ntmps54;go_wp2_with fail
  refine HS.out.mono ?_;rintro e w1 ⟨rfl,hr1,hb1⟩;have c0:w1.cell? ⟨w.heap.size,1,none⟩=some (.string r0):=hr1 0 oz;have HR1:=hid hr1;have HB1:=hid hb1;clear hr1 hb1;go_wp2_with fail
  refine(NC.out _).mono ?_
  rintro e w2 ⟨rfl,hb2⟩;have c2:=keep_cell hb2 c0;have HB2:=hid (below_trans HB1.out hb2);clear hb2;go_wp2;go_ret;exact⟨⟨_,rfl,by rw[HOL.out];rfl⟩,HB2.out⟩
 |false=>
  rw[hn]at NC;have HOL:Hid (O=none):=hid (by rw[HO.out,a7X,hn];rfl);clear hn;go_enter func54,ntmps54;go_wp2_with fail
  refine HS.out.mono ?_;rintro e w1 ⟨rfl,hr1,hb1⟩;have c0:w1.cell? ⟨w.heap.size,1,none⟩=some (.string r0):=hr1 0 oz;have HR1:=hid hr1;have HB1:=hid hb1;clear hr1 hb1;go_wp2_with fail
  refine(NC.out _).mono ?_
  rintro e w2 ⟨rfl,hb2⟩;have HB2:=hid (below_trans HB1.out hb2);clear hb2;go_wp2;go_ret;exact⟨⟨_,rfl,by rw[HOL.out];rfl⟩,HB2.out⟩
theorem a9s(s:ByteArray)(hs:s.size<=1000000)(w:World)(hV:Vars w){r0:ByteArray}{rs:List ByteArray}(h:splitA 32 s=stockW::r0::rs)(hr:rs≠[]):
  Calls prog 54 #[.string s] w (a1a w (a08 s)):=by
 have hm:1<=rs.length:=apE.2 hr;have HR0:=hid hr;clear hr;have HS:=hid (a1T s hs w hV h (rs.length+1) rfl);have HL:=hid (a1l hs h);have HSZ:=hid (a2k hs h);have HV:=hid hV;obtain⟨O,hO0⟩:∃O,O=a08 s:=⟨_,rfl⟩
 have HO:=hid (hO0.trans (a11 h));have HH:=hid h;rw[<-hO0];clear hO0 hV h;have HOL:Hid (O=none):=hid (by rw[HO.out,a6X,decide_eq_false HR0.out];rfl);have hL:=HL.out;have z1:((rs.length:Int)+1==0)=false:=by simp;omega
 have z2:((rs.length:Int)+1 != 1)=true:=by simp;omega
 unfold stockW at HS;go_enter func54,ntmps54;go_wp2_with fail
 refine HS.out.mono ?_;rintro e w1 ⟨rfl,hr1,hb1⟩;have c0:w1.cell? ⟨w.heap.size,1,none⟩=some (.string r0):=hr1 0 oz;have HR1:=hid hr1;have HB1:=hid hb1;clear hr1 hb1;go_wp2;go_ret;exact⟨⟨_,rfl,by rw[HOL.out];rfl⟩,HB1.out⟩
theorem aa7(s:ByteArray)(hs:s.size<=1000000)(w:World)(hV:Vars w){r0:ByteArray}(h:splitA 32 s=[stockW,r0]):
  Calls prog 54 #[.string s] w (a1a w (a08 s)):=by
 have HS:=hid (a1T s hs w hV h 1 rfl);have HL:=hid (a1l hs h);have HSZ:=hid (a2k hs h);have HV:=hid hV;obtain⟨O,hO0⟩:∃O,O=a08 s:=⟨_,rfl⟩
 have HO:=hid (hO0.trans (a11 h));have HH:=hid h;rw[<-hO0];clear hO0 hV h;have NC:=hid (fun W=>a3I r0 W);unfold stockW at HS;cases hn:a03 r0 with
 |true=>
  rw[hn]at NC;have HOL:Hid (O=some (.stock r0)):=hid (by rw[HO.out,a6X,hn];rfl);clear hn;go_enter func54,ntmps54;go_wp2_with fail
  refine HS.out.mono ?_;rintro e w1 ⟨rfl,hr1,hb1⟩;have c0:w1.cell? ⟨w.heap.size,1,none⟩=some (.string r0):=hr1 0 oz;have HR1:=hid hr1;have HB1:=hid hb1;clear hr1 hb1;go_wp2_with fail
  refine(NC.out _).mono ?_
  rintro e w2 ⟨rfl,hb2⟩;have c2:=keep_cell hb2 c0;have HB2:=hid (below_trans HB1.out hb2);clear hb2;go_wp2;go_ret;exact⟨⟨_,rfl,by rw[HOL.out];rfl⟩,HB2.out⟩
 |false=>
  rw[hn]at NC;have HOL:Hid (O=none):=hid (by rw[HO.out,a6X,hn];rfl);clear hn;go_enter func54,ntmps54;go_wp2_with fail
  refine HS.out.mono ?_;rintro e w1 ⟨rfl,hr1,hb1⟩;have c0:w1.cell? ⟨w.heap.size,1,none⟩=some (.string r0):=hr1 0 oz;have HR1:=hid hr1;have HB1:=hid hb1;clear hr1 hb1;go_wp2_with fail
  refine(NC.out _).mono ?_
  rintro e w2 ⟨rfl,hb2⟩;have HB2:=hid (below_trans HB1.out hb2);clear hb2;go_wp2;go_ret;exact⟨⟨_,rfl,by rw[HOL.out];rfl⟩,HB2.out⟩
theorem adw{r0 s:ByteArray}{rs:List ByteArray}:a0Y putW r0 rs s=if a03 r0&& !(a0x rs).data.toList.isEmpty&&a0n s then some (.put r0 (a0x rs))else none:=rfl
theorem ad0(s:ByteArray)(hs:s.size<=1000000)(w:World)(hV:Vars w){r0:ByteArray}(h:splitA 32 s=[putW,r0]):
  Calls prog 54 #[.string s] w (a1a w (a08 s)):=by
 have HS:=hid (a1T s hs w hV h 1 rfl);have HL:=hid (a1l hs h);have HSZ:=hid (a2k hs h);have HV:=hid hV;obtain⟨O,hO0⟩:∃O,O=a08 s:=⟨_,rfl⟩
 have HO:=hid (hO0.trans (a11 h));have HH:=hid h;rw[<-hO0];clear hO0 hV h;have NC:=hid (fun W=>a3I r0 W);have HOL:Hid (O=none):=hid (by rw[HO.out,adw];simp[a0x,bsB,Lib.join_nil]);unfold putW at HS;obtain⟨q,hq⟩:∃q,q=a03 r0:=⟨_,rfl⟩
 rw[<-hq]at NC;clear hq;cases q with
 |true=>
  go_enter func54,ntmps54;go_wp2_with fail
  refine HS.out.mono ?_;rintro e w1 ⟨rfl,hr1,hb1⟩;have c0:w1.cell? ⟨w.heap.size,1,none⟩=some (.string r0):=hr1 0 oz;have HR1:=hid hr1;have HB1:=hid hb1;clear hr1 hb1;go_wp2_with fail
  refine(Tryz.strings_Join_none _ _ _ _).mono ?_
  rintro e w2 ⟨rfl,hw2⟩;obtain rfl:w2=w1:=hw2;go_wp2_with fail
  refine(NC.out _).mono ?_
  rintro e w3 ⟨rfl,hb2⟩;have HB2:=hid (below_trans HB1.out hb2);clear hb2;go_wp2;go_ret;exact⟨⟨_,rfl,by rw[HOL.out];rfl⟩,HB2.out⟩
 |false=>
  go_enter func54,ntmps54;go_wp2_with fail
  refine HS.out.mono ?_;rintro e w1 ⟨rfl,hr1,hb1⟩;have c0:w1.cell? ⟨w.heap.size,1,none⟩=some (.string r0):=hr1 0 oz;have HR1:=hid hr1;have HB1:=hid hb1;clear hr1 hb1;go_wp2_with fail
  refine(Tryz.strings_Join_none _ _ _ _).mono ?_
  rintro e w2 ⟨rfl,hw2⟩;obtain rfl:w2=w1:=hw2;go_wp2_with fail
  refine(NC.out _).mono ?_
  rintro e w3 ⟨rfl,hb2⟩;have HB2:=hid (below_trans HB1.out hb2);clear hb2;go_wp2;go_ret;exact⟨⟨_,rfl,by rw[HOL.out];rfl⟩,HB2.out⟩
theorem aiy(b off:Nat)(l:List ByteArray)(w:World)(h:RestAt w b off l)(h0:0<l.length)(hl:l.length<=1000000)(hlen:(a0x l).size<=1000000):
  Calls prog 85 #[.slice (some ⟨b,off,none⟩) l.length l.length,.string ⟨#[32]⟩] w fun e w'=>e= .returned (.string (a0x l))/\Below w.heap.size w w':=by
 refine Tryz.strings_Join b off l.length l ⟨#[32]⟩ w (fun j x hx=>?_) (World.block_lt_of_cell? _ _ (h 0 h0)) om (aof _) ?_
 ·obtain⟨hj,rfl⟩:=api.1 hx;rw[h j hj,aoh,aoj hj];rfl
 rw[a05]at hlen;have:(a0x l).data.toList=Lib.join (l.map (·.data.toList)) [32]:=rfl
 rw[this]at hlen;show (Lib.join (l.map (·.data.toList)) [32]).length<=_
 omega
theorem aiz{s w0 r0:ByteArray}{rs:List ByteArray}(hs:s.size<=1000000)(h:splitA 32 s=w0::r0::rs)(hr:rs≠[]):(a0x rs).size<=1000000:=by
 have h1:=a3P h oz;obtain⟨r1,rs',rfl⟩:∃a b,rs=a::b:=by cases rs with|nil=>exact absurd rfl hr|cons a b=>exact⟨a,b,rfl⟩
 rw[a6P]at h1;have h2:=congrArg List.length h1;simp only[aol,aom]at h2;rw[a05]at hs⊢;omega
theorem abx(s:ByteArray)(hs:s.size<=1000000)(w:World)(hV:Vars w){r0:ByteArray}{rs:List ByteArray}(h:splitA 32 s=putW::r0::rs)(hr:rs≠[]):
  Calls prog 54 #[.string s] w (a1a w (a08 s)):=by
 obtain⟨k,hk⟩:∃k,rs.length=k+1:=⟨rs.length-1,by have:=apE.2 hr;omega⟩
 have HK:=hid hk;have HJ0:=hid (aiz hs h hr);have hL:k+1<=1000000:=by have:=a1l hs h;omega
 have HS:=hid (a1T s hs w hV h (k+2) om);have HL:=hid (a1l hs h);have HSZ:=hid (a2k hs h);have HV:=hid hV;obtain⟨O,hO0⟩:∃O,O=a08 s:=⟨_,rfl⟩
 have HO:=hid (hO0.trans (a11 h));have HH:=hid h;rw[<-hO0];clear hO0 hV h;have z1:((k:Int)+2==0)=false:=by simp;omega
 clear hr hk;have NC:=hid (fun W=>a3I r0 W);have LC:=hid (fun W=>a3H s W);have HJ:=hid (fun W (hW:RestAt W w.heap.size 2 rs)=>aiy w.heap.size 2 rs W hW (by rw[HK.out];omega) (by rw[HK.out];omega) HJ0.out);rw[HK.out]at HJ;unfold putW at HS;have HOL:Hid (O=if a03 r0&& !(a0x rs).data.toList.isEmpty&&a0n s then some (.put r0 (a0x rs))else none):=hid (by rw[HO.out,adw]);clear HO HH;generalize a0x rs=js at *;obtain⟨q,hq⟩:∃q,q=a03 r0:=⟨_,rfl⟩
 rw[<-hq]at NC HOL;clear hq;obtain⟨p,hp⟩:∃q,q=a0n s:=⟨_,rfl⟩
 rw[<-hp]at LC HOL;clear hp;cases q with
 |false=>
  have HOX:Hid (O=none):=hid (by rw[HOL.out];rfl);go_enter func54,ntmps54;go_wp2_with fail
  refine HS.out.mono ?_;rintro e w1 ⟨rfl,hr1,hb1⟩;have c0:w1.cell? ⟨w.heap.size,1,none⟩=some (.string r0):=hr1 0 oz;have HR1:=hid hr1;have HB1:=hid hb1;clear hr1 hb1;go_wp2_with fail
  refine(HJ.out w1 ((HR1.out.drop 1))).mono ?_
  rintro e w2 ⟨rfl,hb2⟩;have c2:=keep_cell hb2 c0;have HB2:=hid (below_trans HB1.out hb2);clear hb2;go_wp2_with fail
  refine(NC.out _).mono ?_
  rintro e w3 ⟨rfl,hb3⟩;have c3:=keep_cell hb3 c2;have HB3:=hid (below_trans HB2.out hb3);clear hb3;go_wp2;go_ret;exact⟨⟨_,rfl,by rw[HOX.out];rfl⟩,HB3.out⟩
 | true=>
  by_cases he:js.toList=[]
  ·have HOX:Hid (O=none):=hid (by rw[HOL.out,<-ba_list,he];rfl);have he2:js.toList.isEmpty=true:=by rw[he];rfl
   go_enter func54,ntmps54;go_wp2_with fail
   refine HS.out.mono ?_;rintro e w1 ⟨rfl,hr1,hb1⟩;have c0:w1.cell? ⟨w.heap.size,1,none⟩=some (.string r0):=hr1 0 oz;have HR1:=hid hr1;have HB1:=hid hb1;clear hr1 hb1;go_wp2_with fail
   refine(HJ.out w1 ((HR1.out.drop 1))).mono ?_
   rintro e w2 ⟨rfl,hb2⟩;have c2:=keep_cell hb2 c0;have HB2:=hid (below_trans HB1.out hb2);clear hb2;go_wp2_with fail
   refine(NC.out _).mono ?_
   rintro e w3 ⟨rfl,hb3⟩;have c3:=keep_cell hb3 c2;have HB3:=hid (below_trans HB2.out hb3);clear hb3;go_wp2;go_ret;exact⟨⟨_,rfl,by rw[HOX.out];rfl⟩,HB3.out⟩
  have he2:js.toList.isEmpty=false:=by simpa using he
  have he3:(!js.toList.isEmpty)=true:=by rw[he2];rfl
  have HE3:=hid he2;cases p with
  |false=>
   have HOX:Hid (O=none):=hid (by rw[HOL.out];simp);go_enter func54,ntmps54;go_wp2_with fail
   refine HS.out.mono ?_;rintro e w1 ⟨rfl,hr1,hb1⟩;have c0:w1.cell? ⟨w.heap.size,1,none⟩=some (.string r0):=hr1 0 oz;have HR1:=hid hr1;have HB1:=hid hb1;clear hr1 hb1;go_wp2_with fail
   refine(HJ.out w1 ((HR1.out.drop 1))).mono ?_
   rintro e w2 ⟨rfl,hb2⟩;have c2:=keep_cell hb2 c0;have HB2:=hid (below_trans HB1.out hb2);clear hb2;go_wp2_with fail
   refine(NC.out _).mono ?_
   rintro e w3 ⟨rfl,hb3⟩;have c3:=keep_cell hb3 c2;have HB3:=hid (below_trans HB2.out hb3);clear hb3;go_wp2_with fail
   refine(LC.out _).mono ?_
   rintro e w4 ⟨rfl,hb4⟩;have HB4:=hid (below_trans HB3.out hb4);clear hb4;go_wp2;go_ret;exact⟨⟨_,rfl,by rw[HOX.out];rfl⟩,HB4.out⟩
  |true=>
   have HOX:Hid (O=some (.put r0 js)):=hid (by rw[HOL.out,<-ba_list,HE3.out];rfl);go_enter func54,ntmps54;go_wp2_with fail
   refine HS.out.mono ?_;rintro e w1 ⟨rfl,hr1,hb1⟩;have c0:w1.cell? ⟨w.heap.size,1,none⟩=some (.string r0):=hr1 0 oz;have HR1:=hid hr1;have HB1:=hid hb1;clear hr1 hb1;go_wp2_with fail
   refine(HJ.out w1 ((HR1.out.drop 1))).mono ?_
   rintro e w2 ⟨rfl,hb2⟩;have c2:=keep_cell hb2 c0;have HB2:=hid (below_trans HB1.out hb2);clear hb2;go_wp2_with fail
   refine(NC.out _).mono ?_
   rintro e w3 ⟨rfl,hb3⟩;have c3:=keep_cell hb3 c2;have HB3:=hid (below_trans HB2.out hb3);clear hb3;go_wp2_with fail
   refine(LC.out _).mono ?_
   rintro e w4 ⟨rfl,hb4⟩;have c4:=keep_cell hb4 c3;have HB4:=hid (below_trans HB3.out hb4);clear hb4;go_wp2;go_ret;exact⟨⟨_,rfl,by rw[HOX.out];rfl⟩,HB4.out⟩
def addO(r0:ByteArray)(o:Option (List Int)):Option Cmd:=match o with
 |some [n]=>if a03 r0 then some (.add r0 n)else none
 |_=>none
theorem adx{r0 s:ByteArray}{rs:List ByteArray}:a0Y addW r0 rs s=addO r0 (allS a0d rs):=rfl
theorem ad1(s:ByteArray)(hs:s.size<=1000000)(w:World)(hV:Vars w){r0:ByteArray}(h:splitA 32 s=[addW,r0]):
  Calls prog 54 #[.string s] w (a1a w (a08 s)):=by
 have HS:=hid (a1T s hs w hV h 1 rfl);have HL:=hid (a1l hs h);have HSZ:=hid (a2k hs h);have HV:=hid hV;obtain⟨O,hO0⟩:∃O,O=a08 s:=⟨_,rfl⟩
 have HO:=hid (hO0.trans (a11 h));have HH:=hid h;rw[<-hO0];clear hO0 hV h;have HOL:Hid (O=none):=hid (by rw[HO.out,adx];rfl);unfold addW at HS;go_enter func54,ntmps54;go_wp2_with fail
 refine HS.out.mono ?_;rintro e w1 ⟨rfl,hr1,hb1⟩;have c0:w1.cell? ⟨w.heap.size,1,none⟩=some (.string r0):=hr1 0 oz;have HR1:=hid hr1;have HB1:=hid hb1;clear hr1 hb1;go_wp2_with fail
 refine(a2F (.slice (some ⟨w.heap.size,1,none⟩) 0 0) [] oz oz w1 (a3J _ _ 0 om) (HV.out.below HB1.out)).mono ?_
 rintro e w2 ⟨⟨v,rfl,ho⟩,hb2⟩;obtain⟨va,vc,rfl⟩:=own_shape ho;have HB2:=hid (below_trans HB1.out hb2);clear ho hb2;go_wp2;go_ret;exact⟨⟨_,rfl,by rw[HOL.out];rfl⟩,HB2.out⟩
theorem a6Y{w:World}{v:Value}{n:Int}(h:IntsAt w v [n]):∃b off cap,v= .slice (some ⟨b,off,none⟩) 1 cap/\w.cell? ⟨b,off,none⟩=some (.int .i64 n):=by
 obtain⟨a,cap,rfl,_,hq⟩:=h;obtain⟨b,off,rfl,hc⟩:=hq oz;exact⟨b,off,cap,rfl,hc 0 oz⟩
theorem aby(s:ByteArray)(hs:s.size<=1000000)(w:World)(hV:Vars w){r0:ByteArray}{rs:List ByteArray}(h:splitA 32 s=addW::r0::rs)(hr:rs≠[]):
  Calls prog 54 #[.string s] w (a1a w (a08 s)):=by
 obtain⟨k,hk⟩:∃k,rs.length=k+1:=⟨rs.length-1,by have:=apE.2 hr;omega⟩
 have HK:=hid hk;have hL:k+1<=1000000:=by have:=a1l hs h;omega
 have HS:=hid (a1T s hs w hV h (k+2) om);have HL:=hid (a1l hs h);have HSZ:=hid (a2k hs h);have HV:=hid hV;obtain⟨O,hO0⟩:∃O,O=a08 s:=⟨_,rfl⟩
 have HO:=hid (hO0.trans (a11 h));have HH:=hid h;rw[<-hO0];clear hO0 hV h;have z1:((k:Int)+2==0)=false:=by simp;omega
 clear hr hk;have NC:=hid (fun W=>a3I r0 W);have HN:=hid (fun W (hW:RestAt W w.heap.size 1 (r0::rs)) (hb:Below w.heap.size w W)=>a2F _ rs (by rw[HK.out];omega) (fun x hx=>HSZ.out x (by simp[hx])) W ((hW.drop 1).strs (by show rs.length<=_;rw[HK.out];omega)) (HV.out.below hb));have hd1:((r0::rs).drop 1).length=k+1:=HK.out
 rw[hd1]at HN;clear hd1;unfold addW at HS;have HOL:Hid (O=addO r0 (allS a0d rs)):=hid (by rw[HO.out,adx]);clear HO HH;cases hx:allS a0d rs with
 |none=>
  rw[hx]at HOL HN;clear hx;go_enter func54,ntmps54;go_wp2_with fail
  refine HS.out.mono ?_;rintro e w1 ⟨rfl,hr1,hb1⟩;have c0:w1.cell? ⟨w.heap.size,1,none⟩=some (.string r0):=hr1 0 oz;have HR1:=hid hr1;have HB1:=hid hb1;clear hr1 hb1;go_wp2_with fail
  refine(HN.out w1 HR1.out HB1.out).mono ?_
  rintro e w2 ⟨rfl,hb2⟩;have HB2:=hid (below_trans HB1.out hb2);clear hb2;go_wp2;go_ret;exact⟨⟨_,rfl,by rw[HOL.out];rfl⟩,HB2.out⟩
 | some ns=>
  rw[hx]at HOL HN;have hnl:=allS_len _ _ _ hx;rw[HK.out]at hnl;clear hx;by_cases h1:k=0
  ·subst h1
   obtain⟨n,rfl⟩:∃n,ns=[n]:=by
    match ns,hnl with
    |[n],_=>exact⟨n,rfl⟩
   obtain⟨q,hq⟩:∃q,q=a03 r0:=⟨_,rfl⟩
   have HOX:Hid (O=if q then some (.add r0 n)else none):=hid (by rw[HOL.out,hq];rfl);rw[<-hq]at NC;clear hq hnl HOL;cases q with
   |true=>
    go_enter func54,ntmps54;go_wp2_with fail
    refine HS.out.mono ?_;rintro e w1 ⟨rfl,hr1,hb1⟩;have c0:w1.cell? ⟨w.heap.size,1,none⟩=some (.string r0):=hr1 0 oz;have HR1:=hid hr1;have HB1:=hid hb1;clear hr1 hb1;go_wp2_with fail
    refine(HN.out w1 HR1.out HB1.out).mono ?_
    rintro e w2 ⟨⟨v,rfl,ho⟩,hb2⟩;obtain⟨vb,vo,vc,rfl,hvc⟩:=a6Y (a2Y ho oz);have c2:=keep_cell hb2 c0;have HB2:=hid (below_trans HB1.out hb2);clear ho hb2;go_wp2_with fail
    refine(NC.out _).mono ?_
    rintro e w3 ⟨rfl,hb3⟩;have c3:=keep_cell hb3 c2;have d3:=keep_cell hb3 hvc;have HB3:=hid (below_trans HB2.out hb3);clear hb3;go_wp2;go_quiet (fail)
    all_goals go_wp2
    go_ret;exact⟨⟨_,rfl,by rw[HOX.out];rfl⟩,a4O HB3.out _⟩
   |false=>
    go_enter func54,ntmps54;go_wp2_with fail
    refine HS.out.mono ?_;rintro e w1 ⟨rfl,hr1,hb1⟩;have c0:w1.cell? ⟨w.heap.size,1,none⟩=some (.string r0):=hr1 0 oz;have HR1:=hid hr1;have HB1:=hid hb1;clear hr1 hb1;go_wp2_with fail
    refine(HN.out w1 HR1.out HB1.out).mono ?_
    rintro e w2 ⟨⟨v,rfl,ho⟩,hb2⟩;obtain⟨vb,vo,vc,rfl,hvc⟩:=a6Y (a2Y ho oz);have c2:=keep_cell hb2 c0;have HB2:=hid (below_trans HB1.out hb2);clear ho hb2;go_wp2_with fail
    refine(NC.out _).mono ?_
    rintro e w3 ⟨rfl,hb3⟩;have HB3:=hid (below_trans HB2.out hb3);clear hb3;go_wp2;go_ret;exact⟨⟨_,rfl,by rw[HOX.out];rfl⟩,HB3.out⟩
  have z2:((k:Int)+1==1)=false:=by simp;omega
  have HOX:Hid (O=none):=hid (by
   rw[HOL.out];match ns,hnl with
   |[],_=>rfl
   |[n],hnl=>exact absurd (by simpa using hnl.symm) h1
   |n::m::r,_=>rfl)
  have HNL:=hid hnl;clear h1 hnl HOL;go_enter func54,ntmps54;go_wp2_with fail
  refine HS.out.mono ?_;rintro e w1 ⟨rfl,hr1,hb1⟩;have c0:w1.cell? ⟨w.heap.size,1,none⟩=some (.string r0):=hr1 0 oz;have HR1:=hid hr1;have HB1:=hid hb1;clear hr1 hb1;go_wp2_with fail
  refine(HN.out w1 HR1.out HB1.out).mono ?_
  rintro e w2 ⟨⟨v,rfl,ho⟩,hb2⟩;obtain⟨va,vc,rfl⟩:=own_shape ho;rw[HNL.out]at *;have HB2:=hid (below_trans HB1.out hb2);clear ho hb2;go_wp2;go_ret;exact⟨⟨_,rfl,by rw[HOX.out];rfl⟩,HB2.out⟩
def ady(o:Option Int)(all:Bool)(n:Nat)(rs:List ByteArray):Option Cmd:=match o with
 |some x=>if all&&betw 1 n 8 then some (.share x rs)else none
 |none=>none
theorem aa8{r0 s:ByteArray}{rs:List ByteArray}:a0Y shareW r0 rs s=ady (a0d r0) (rs.all a03) rs.length rs:=rfl
def akI(w:World)(o:Option Int)(e:Ending)(w':World):Prop:=
 (match o with
  |some n=>∃b off cap,e= .returned (.tuple #[.slice (some ⟨b,off,none⟩) 1 cap,.bool true])/\w'.cell? ⟨b,off,none⟩=some (.int .i64 n)
  |none=>e= .returned (.tuple #[.slice none 0 0,.bool false]))/\Below w.heap.size w w'
theorem a95(x:ByteArray)(hx:x.size<=281474976710656)(v:Value)(w:World)(hv:StrsAt w v [x])(hV:Vars w):Calls prog 88 #[v] w (akI w (a0d x)):=by
 have h:=a2F v [x] oz (by simpa using hx) w hv hV;refine h.mono ?_;rintro e w' ⟨h1,hb⟩;refine⟨?_,hb⟩;cases hn:a0d x with
 |none=>simpa [allS,hn]using h1
 |some n=>
  simp only[allS,hn]at h1;obtain⟨v',rfl,ho⟩:=h1;obtain⟨b,off,cap,rfl,hc⟩:=a6Y (a2Y ho oz);exact⟨b,off,cap,rfl,hc⟩
theorem aa9(s:ByteArray)(hs:s.size<=1000000)(w:World)(hV:Vars w){r0:ByteArray}(h:splitA 32 s=[shareW,r0]):
  Calls prog 54 #[.string s] w (a1a w (a08 s)):=by
 have HS:=hid (a1T s hs w hV h 1 rfl);have HL:=hid (a1l hs h);have HSZ:=hid (a2k hs h);have HV:=hid hV;obtain⟨O,hO0⟩:∃O,O=a08 s:=⟨_,rfl⟩
 have HO:=hid (hO0.trans (a11 h));have HH:=hid h;rw[<-hO0];clear hO0 hV h;have HN:=hid (fun W (hW:RestAt W w.heap.size 1 [r0]) (hb:Below w.heap.size w W)=>a95 r0 (HSZ.out r0 oz) _ W (hW.strs oz) (HV.out.below hb));rw[show ([r0]:List ByteArray).length=1 from rfl]at HN;have HM:=hid (fun W=>a4e (.slice (some ⟨w.heap.size,1,none⟩) 0 0) [] W (a3J _ _ 0 om));rw[show ([]:List ByteArray).all a03=true from rfl]at HM;unfold a3k at HM;have hbt:betw 1 0 8=false:=by decide
 have HBT:=hid hbt;have HOL:Hid (O=none):=hid (by rw[HO.out,aa8];unfold ady;cases a0d r0 with|none=>rfl|some x=>rw[show (([]:List ByteArray).length:Int)=0 from rfl,HBT.out];simp);unfold shareW at HS;clear HO HH hbt;cases hx:a0d r0 with
 |none=>
  rw[hx]at HN;clear hx;go_enter func54,ntmps54;go_wp2_with fail
  refine HS.out.mono ?_;rintro e w1 ⟨rfl,hr1,hb1⟩;have c0:w1.cell? ⟨w.heap.size,1,none⟩=some (.string r0):=hr1 0 oz;have HR1:=hid hr1;have HB1:=hid hb1;clear hr1 hb1;go_wp2_with fail
  refine(HN.out w1 HR1.out HB1.out).mono ?_
  rintro e w2 ⟨rfl,hb2⟩;have HB2:=hid (below_trans HB1.out hb2);clear hb2;go_wp2_with fail
  refine(HM.out _).mono ?_
  rintro e w3 ⟨rfl,hb3⟩;have HB3:=hid (below_trans HB2.out hb3);clear hb3;go_wp2;go_ret;exact⟨⟨_,rfl,by rw[HOL.out];rfl⟩,HB3.out⟩
 |some n=>
  rw[hx]at HN;clear hx;go_enter func54,ntmps54;go_wp2_with fail
  refine HS.out.mono ?_;rintro e w1 ⟨rfl,hr1,hb1⟩;have c0:w1.cell? ⟨w.heap.size,1,none⟩=some (.string r0):=hr1 0 oz;have HR1:=hid hr1;have HB1:=hid hb1;clear hr1 hb1;go_wp2_with fail
  refine(HN.out w1 HR1.out HB1.out).mono ?_
  rintro e w2 ⟨⟨b,off,cap,rfl,hc⟩,hb2⟩;have HB2:=hid (below_trans HB1.out hb2);clear hb2;go_wp2_with fail
  refine(HM.out _).mono ?_
  rintro e w3 ⟨rfl,hb3⟩;have HB3:=hid (below_trans HB2.out hb3);clear hb3;go_wp2_with fail
  refine(between_any _ _ _ _).mono ?_
  rintro e w4 ⟨rfl,rfl⟩;rw[HBT.out];go_wp2;go_ret;exact⟨⟨_,rfl,by rw[HOL.out];rfl⟩,HB3.out⟩
theorem a9t(s:ByteArray)(hs:s.size<=1000000)(w:World)(hV:Vars w){r0:ByteArray}{rs:List ByteArray}(h:splitA 32 s=shareW::r0::rs)(hr:rs≠[]):
  Calls prog 54 #[.string s] w (a1a w (a08 s)):=by
 obtain⟨k,hk⟩:∃k,rs.length=k+1:=⟨rs.length-1,by have:=apE.2 hr;omega⟩
 have HK:=hid hk;have hL:k+1<=1000000:=by have:=a1l hs h;omega
 have HS:=hid (a1T s hs w hV h (k+2) om);have HL:=hid (a1l hs h);have HSZ:=hid (a2k hs h);have HV:=hid hV;obtain⟨O,hO0⟩:∃O,O=a08 s:=⟨_,rfl⟩
 have HO:=hid (hO0.trans (a11 h));have HH:=hid h;rw[<-hO0];clear hO0 hV h;have z1:((k:Int)+2==0)=false:=by simp;omega
 clear hr hk;have HN:=hid (fun W (hW:RestAt W w.heap.size 1 (r0::rs)) (hb:Below w.heap.size w W)=>a95 r0 (HSZ.out r0 oz) _ W (hW.take 1 oz (by rw[aom,HK.out];omega)) (HV.out.below hb));rw[show (r0::rs).length=k+2 by rw[aom,HK.out]]at HN;have HM:=hid (fun W (hW:RestAt W w.heap.size 1 (r0::rs))=>a4e _ rs W ((hW.drop 1).strs (by show rs.length<=_;rw[HK.out];omega)));have hd1:((r0::rs).drop 1).length=k+1:=HK.out
 rw[hd1]at HM;clear hd1;unfold shareW at HS;have HOL:Hid (O=ady (a0d r0) (rs.all a03) (k+1) rs):=hid (by rw[HO.out,aa8,HK.out]);clear HO HH;obtain⟨q,hq⟩:∃q,q=rs.all a03:=⟨_,rfl⟩
 rw[<-hq]at HOL HM;clear hq;cases hx:a0d r0 with
 | none=>
  rw[hx]at HOL HN;clear hx;cases q with
  |true=>
   unfold a3k at HM;go_enter func54,ntmps54;go_wp2_with fail
   refine HS.out.mono ?_;rintro e w1 ⟨rfl,hr1,hb1⟩;have c0:w1.cell? ⟨w.heap.size,1,none⟩=some (.string r0):=hr1 0 oz;have HR1:=hid hr1;have HB1:=hid hb1;clear hr1 hb1;go_wp2_with fail
   refine(HN.out w1 HR1.out HB1.out).mono ?_
   rintro e w2 ⟨rfl,hb2⟩;have HR2:=hid (HR1.out.below hb2);have HB2:=hid (below_trans HB1.out hb2);clear hb2;go_wp2_with fail
   refine(HM.out _ HR2.out).mono ?_
   rintro e w3 ⟨rfl,hb3⟩;have HB3:=hid (below_trans HB2.out hb3);clear hb3;go_wp2;go_ret;exact⟨⟨_,rfl,by rw[HOL.out];rfl⟩,HB3.out⟩
  |false=>
   unfold a3k at HM;go_enter func54,ntmps54;go_wp2_with fail
   refine HS.out.mono ?_;rintro e w1 ⟨rfl,hr1,hb1⟩;have c0:w1.cell? ⟨w.heap.size,1,none⟩=some (.string r0):=hr1 0 oz;have HR1:=hid hr1;have HB1:=hid hb1;clear hr1 hb1;go_wp2_with fail
   refine(HN.out w1 HR1.out HB1.out).mono ?_
   rintro e w2 ⟨rfl,hb2⟩;have HR2:=hid (HR1.out.below hb2);have HB2:=hid (below_trans HB1.out hb2);clear hb2;go_wp2_with fail
   refine(HM.out _ HR2.out).mono ?_
   rintro e w3 ⟨rfl,hb3⟩;have HB3:=hid (below_trans HB2.out hb3);clear hb3;go_wp2;go_ret;exact⟨⟨_,rfl,by rw[HOL.out];rfl⟩,HB3.out⟩
 | some n=>
  rw[hx]at HOL HN;clear hx;cases q with
  |false=>
   unfold a3k at HM;go_enter func54,ntmps54;go_wp2_with fail
   refine HS.out.mono ?_;rintro e w1 ⟨rfl,hr1,hb1⟩;have c0:w1.cell? ⟨w.heap.size,1,none⟩=some (.string r0):=hr1 0 oz;have HR1:=hid hr1;have HB1:=hid hb1;clear hr1 hb1;go_wp2_with fail
   refine(HN.out w1 HR1.out HB1.out).mono ?_
   rintro e w2 ⟨⟨b,off,cap,rfl,hc⟩,hb2⟩;have HR2:=hid (HR1.out.below hb2);have HB2:=hid (below_trans HB1.out hb2);clear hb2;go_wp2_with fail
   refine(HM.out _ HR2.out).mono ?_
   rintro e w3 ⟨rfl,hb3⟩;have HB3:=hid (below_trans HB2.out hb3);clear hb3;go_wp2;go_ret;exact⟨⟨_,rfl,by rw[HOL.out];rfl⟩,HB3.out⟩
  | true=>
   unfold a3k at HM;obtain⟨p,hp⟩:∃p,p=betw 1 ((k:Int)+1) 8:=⟨_,rfl⟩
   have HP:=hid hp;clear hp;have HOX:Hid (O=if p then some (.share n rs)else none):=hid (by rw[HOL.out,HP.out];rfl);cases p with
   |false=>
    go_enter func54,ntmps54;go_wp2_with fail
    refine HS.out.mono ?_;rintro e w1 ⟨rfl,hr1,hb1⟩;have c0:w1.cell? ⟨w.heap.size,1,none⟩=some (.string r0):=hr1 0 oz;have HR1:=hid hr1;have HB1:=hid hb1;clear hr1 hb1;go_wp2_with fail
    refine(HN.out w1 HR1.out HB1.out).mono ?_
    rintro e w2 ⟨⟨b,off,cap,rfl,hc⟩,hb2⟩;have HR2:=hid (HR1.out.below hb2);have HB2:=hid (below_trans HB1.out hb2);clear hb2;go_wp2_with fail
    refine(HM.out _ HR2.out).mono ?_
    rintro e w3 ⟨rfl,hb3⟩;have HB3:=hid (below_trans HB2.out hb3);clear hb3;go_wp2_with fail
    refine(between_any _ _ _ _).mono ?_
    rintro e w4 ⟨rfl,rfl⟩;rw[<-HP.out];go_wp2;go_ret;exact⟨⟨_,rfl,by rw[HOX.out];rfl⟩,HB3.out⟩
   |true=>
    go_enter func54,ntmps54;go_wp2_with fail
    refine HS.out.mono ?_;rintro e w1 ⟨rfl,hr1,hb1⟩;have c0:w1.cell? ⟨w.heap.size,1,none⟩=some (.string r0):=hr1 0 oz;have HR1:=hid hr1;have HB1:=hid hb1;clear hr1 hb1;go_wp2_with fail
    refine(HN.out w1 HR1.out HB1.out).mono ?_
    rintro e w2 ⟨⟨b,off,cap,rfl,hc⟩,hb2⟩;have HR2:=hid (HR1.out.below hb2);have HB2:=hid (below_trans HB1.out hb2);clear hb2;go_wp2_with fail
    refine(HM.out _ HR2.out).mono ?_
    rintro e w3 ⟨rfl,hb3⟩;have HR3:=hid (HR2.out.below hb3);have d3:=keep_cell hb3 hc;have HB3:=hid (below_trans HB2.out hb3);clear hb3;go_wp2_with fail
    refine(between_any _ _ _ _).mono ?_
    rintro e w4 ⟨rfl,rfl⟩;rw[<-HP.out];go_wp2;go_ret;refine⟨⟨_,rfl,?_⟩,HB3.out⟩;rw[HOX.out];refine⟨_,rfl,?_⟩;have h9:=(HR3.out.drop 1).strs (by show rs.length<=_;rw[HK.out];omega)
    have hd1:((r0::rs).drop 1).length=k+1:=HK.out
    rw[hd1]at h9;exact h9
theorem a1U(s:ByteArray)(hs:s.size<=1000000)(w:World)(hV:Vars w):Calls prog 54 #[.string s] w (a1a w (a08 s)):=by
 cases h:splitA 32 s with
 |nil=>exact absurd h (abY _ _)
 | cons w0 rest=>
  cases rest with
  |nil=>exact aix s hs w hV h
  | cons r0 rs=>
   by_cases n1:w0=putW
   ·subst n1;by_cases hr:rs=[]
    ·subst hr;exact ad0 s hs w hV h
    exact abx s hs w hV h hr
   by_cases n2:w0=dropW
   ·subst n2;by_cases hr:rs=[]
    ·subst hr;exact abw s hs w hV h
    exact aa6 s hs w hV h hr
   by_cases n3:w0=stockW
   ·subst n3;by_cases hr:rs=[]
    ·subst hr;exact aa7 s hs w hV h
    exact a9s s hs w hV h hr
   by_cases n4:w0=addW
   ·subst n4;by_cases hr:rs=[]
    ·subst hr;exact ad1 s hs w hV h
    exact aby s hs w hV h hr
   by_cases n5:w0=shareW
   ·subst n5;by_cases hr:rs=[]
    ·subst hr;exact aa9 s hs w hV h
    exact a9t s hs w hV h hr
   exact af3 s hs w hV h n1 n2 n3 n4 n5
end Go.Proofs.YtdfkaijeppdhaaaGreatDoor
