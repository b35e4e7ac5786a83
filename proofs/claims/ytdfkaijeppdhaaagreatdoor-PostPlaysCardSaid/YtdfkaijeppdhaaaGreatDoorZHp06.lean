/- Texts of this claim, laid together: Eh, Ei. -/
import Derived.Test.YtdfkaijeppdhaaaGreatDoorZHp05
import Derived.Laws.EntriesVeiled

set_option maxRecDepth 100000
set_option maxHeartbeats 8000000
set_option linter.unusedSimpArgs false
set_option linter.unusedVariables false

namespace Go.Proofs.YtdfkaijeppdhaaaGreatDoor
open Go.RowKit Go.Shelf
open Lib (hid)
def IntsAt(w:World)(v:Value)(l:List Int):Prop:=
 ∃(a:Option Addr) (cap:Nat),v= .slice a l.length cap/\l.length<=9223372036854775807/\
  (0<l.length->∃b off,a=some ⟨b,off,none⟩/\∀i,i<l.length->w.cell? ⟨b,off+i,none⟩=some (.int .i64 (l.getD i 0)))
theorem IntsAt.below{w w':World}{v:Value}{l:List Int}(h:IntsAt w v l)(hb:Below w.heap.size w w'):IntsAt w' v l:=by
 obtain⟨a,cap,rfl,hl,h⟩:=h;refine⟨a,cap,rfl,hl,fun h0=>?_⟩;obtain⟨b,off,ha,hc⟩:=h h0;exact⟨b,off,ha,fun i hi=>keep_cell hb (hc i hi)⟩
theorem a1S{base:Nat}{w:World}{v:Value}{l:List Int}(h:w.ownsRow base 3 1 v l.length (l.map (Value.int .i64)))(hl:l.length<=9223372036854775807):IntsAt w v l:=by
 rcases h.2 with⟨rfl,h0⟩|⟨g,cap,cur,rfl,hrest⟩
 ·exact⟨none,0,by rw[h0],hl,fun h1=>by omega⟩
 refine⟨some ⟨g,0,none⟩,cap,rfl,hl,fun _=>⟨g,0,rfl,fun j hj=>?_⟩⟩;have:=h.cellAt j (by omega);rw[Nat.zero_add,this,List.getElem?_map,List.getElem?_eq_getElem hj,List.getD_eq_getElem?_getD,List.getElem?_eq_getElem hj];rfl
def a3U(k:Nat):Nat:=if k=0 then 116 else if k=1 then 117 else if k=2 then 118 else 119
def CmdAt(w:World)(v:Value):Cmd->Prop
 | .put n t=>v= .iface 136 (.agg #[.string n,.string t])
 | .drop n=>v= .iface 138 (.agg #[.string n])
 | .add n m=>v= .iface 143 (.agg #[.string n,.int .i64 m])
 | .stock n=>v= .iface 139 (.agg #[.string n])
 | .share n l=>∃s,v= .iface 146 (.agg #[.int .i64 n,s])/\StrsAt w s l
 | .asked k l ns=>∃a b,v= .iface 185 (.agg #[a,b,.func (.func (a3U k)) #[] #[]])/\StrsAt w a l/\IntsAt w b ns
def CmdO(w:World)(v:Value):Option Cmd->Prop
 |none=>v= .nilIface
 |some c=>CmdAt w v c
def a0L(w:World)(o:Option Cmd)(e:Ending)(w':World):Prop:=(∃v,e= .returned v/\CmdO w' v o)/\Below w.heap.size w w'
theorem CmdO.below{w w':World}{v:Value}{o:Option Cmd}(h:CmdO w v o)(hb:Below w.heap.size w w'):CmdO w' v o:=by
 cases o with
 |none=>exact h
 |some c=>
  cases c with
  |share n l=>obtain⟨s,h1,h2⟩:=h;exact⟨s,h1,h2.below hb⟩
  |asked k l ns=>obtain⟨a,b,h1,h2,h3⟩:=h;exact⟨a,b,h1,h2.below hb,h3.below hb⟩
  |_=>exact h
theorem adA(x:ByteArray)(v:Value)(w:World)(h:a2v x=none):
  Calls Tryz.prog 90 #[.string x,v] w (a0L w none):=by
 have h1:x≠textW:=fun e=>by rw[e]at h;revert h;decide
 have h2:x≠beatW:=fun e=>by rw[e]at h;revert h;decide
 have h3:x≠farW:=fun e=>by rw[e]at h;revert h;decide
 have h4:x≠driftW:=fun e=>by rw[e]at h;revert h;decide
 have k1:=a0u h1;have k2:=a0u h2;have k3:=a0u h3;have k4:=a0u h4;clear h h1 h2 h3 h4;go_enter Tryz.func90,Tryz.ntmps90;go_wp2;go_ret;exact⟨⟨_,rfl,rfl⟩,(Below.refl _ _).alloc (Nat.le_refl _) _⟩
theorem own_shape{base:Nat}{w:World}{e:TypeId}{sz:Nat}{v:Value}{n:Nat}{xs:List Value}(h:w.ownsRow base e sz v n xs):∃a cap,v= .slice a n cap:=by
 rcases h.2 with⟨rfl,h0⟩|⟨g,cap,cur,rfl,_⟩
 ·exact⟨none,0,by rw[h0]⟩
 exact⟨_,_,rfl⟩
def RestAt(w:World)(b off:Nat)(l:List ByteArray):Prop:=∀j,j<l.length->w.cell? ⟨b,off+j,none⟩=some (.string (l.getD j emp))
theorem RestAt.strs{w:World}{b off:Nat}{l:List ByteArray}(h:RestAt w b off l)(hl:l.length<=1000000):StrsAt w (.slice (some ⟨b,off,none⟩) l.length l.length) l:=
 ⟨_,_,rfl,Nat.le_refl _,by omega,fun _=>⟨b,off,rfl,h⟩⟩
theorem adB{l:List ByteArray}{k j:Nat}(h:j<k)(_hl:k<=l.length):(l.take k).getD j emp=l.getD j emp:=by
 rw[List.getD_eq_getElem?_getD,List.getD_eq_getElem?_getD,List.getElem?_take_of_lt h]
theorem RestAt.take{w:World}{b off:Nat}{l:List ByteArray}(h:RestAt w b off l)(k:Nat)(hk:k<=l.length)(hl:l.length<=2000000):StrsAt w (.slice (some ⟨b,off,none⟩) k l.length) (l.take k):=by
 have hlen:(l.take k).length=k:=by rw[List.length_take];omega
 refine⟨_,l.length,by rw[hlen],by omega,by omega,fun _=>⟨b,off,rfl,fun j hj=>?_⟩⟩;rw[hlen]at hj;rw[h j (by omega),adB hj hk]
theorem RestAt.drop{w:World}{b off:Nat}{l:List ByteArray}(h:RestAt w b off l)(k:Nat):RestAt w b (off+k) (l.drop k):=fun j hj=>by
 rw[List.length_drop]at hj;rw[Nat.add_assoc,h (k+j) (by omega)];congr 2;rw[List.getD_eq_getElem?_getD,List.getD_eq_getElem?_getD,List.getElem?_drop]
theorem a2z(w:World)(a:Option Addr)(c:Nat)(hc:c<=1000000):StrsAt w (.slice a 0 c) []:=⟨a,c,rfl,by simp,by omega,fun h=>by simp at h⟩
theorem RestAt.below{w w':World}{b off:Nat}{l:List ByteArray}(h:RestAt w b off l)(hb:Below w.heap.size w w'):RestAt w' b off l:=fun j hj=>keep_cell hb (h j hj)
theorem a2J{w W:World}{b k:Nat}{v:Value}(h:Below w.heap.size w W)(hb:w.heap.size<=b):Below w.heap.size w (W.setCell ⟨b,k,none⟩ v):=h.setCell (p:=⟨b,k,none⟩) hb v
def a1F(k many:Nat)(l:List ByteArray):Option Cmd:=match (l.take many).all a01,allS numV (l.drop many)with
 |true,some ns=>some (.asked k (l.take many) ns)
 |_,_=>none
theorem a4r{k many:Nat}{l:List ByteArray}(h:(l.take many).all a01=false):a1F k many l=none:=by unfold a1F;rw[h]
theorem a3w{k many:Nat}{l:List ByteArray}(h:allS numV (l.drop many)=none):a1F k many l=none:=by unfold a1F;rw[h];cases (l.take many).all a01<;>rfl
theorem a3x{k many:Nat}{l:List ByteArray}{ns:List Int}(h1:(l.take many).all a01=true)(h:allS numV (l.drop many)=some ns):a1F k many l=some (.asked k (l.take many) ns):=by unfold a1F;rw[h,h1]
theorem Boxed.set3{W:World}{B:Nat}{a b c:Value}{t:TypeId}(h:W.heap[B]? =some (.cells #[a,b,c] t (0,0)))(i:Nat)(v:Value):(W.setCell ⟨B,i,none⟩ v).heap[B]? =some (.cells (#[a,b,c].setIfInBounds i v) t (0,0)):=by
 obtain⟨hlt,hk⟩:=Array.getElem?_eq_some_iff.1 h;show (W.heap.modify B _)[B]? =_;rw[Array.getElem?_eq_getElem (by rw[Array.size_modify];exact hlt),Array.getElem_modify_self,hk];simp
theorem a2j{w w':World}{base:Nat}{e:TypeId}{size:Nat}{v:Value}{n:Nat}{xs:List Value}(h:w.ownsRow base e size v n xs)(hk:∀k,base<=k->w'.heap[k]? =w.heap[k]?):w'.ownsRow base e size v n xs:=by
 refine⟨h.1,?_⟩;rcases h.2 with hn|⟨g,cap,cur,hv,hbg,hg,hrest⟩
 ·exact .inl hn
 exact .inr ⟨g,cap,cur,hv,hbg,(hk g hbg).trans hg,hrest⟩
theorem aag(b off n:Nat)(hn:n≠1)(_hn2:n<=1000000)(w:World):
  Calls Tryz.prog 90 #[.string textW,.slice (some ⟨b,off,none⟩) n n] w (a0L w none):=by
 unfold textW;have hx:((n:Int) != 1)=true:=by simp;omega
 go_enter Tryz.func90,Tryz.ntmps90;go_wp2;go_ret;exact⟨⟨_,rfl,rfl⟩,(Below.refl _ _).alloc (Nat.le_refl _) _⟩
theorem aah(b off n:Nat)(hn:n≠1)(_hn2:n<=1000000)(w:World):
  Calls Tryz.prog 90 #[.string beatW,.slice (some ⟨b,off,none⟩) n n] w (a0L w none):=by
 unfold beatW;have hx:((n:Int) != 1)=true:=by simp;omega
 go_enter Tryz.func90,Tryz.ntmps90;go_wp2;go_ret;exact⟨⟨_,rfl,rfl⟩,(Below.refl _ _).alloc (Nat.le_refl _) _⟩
theorem aaH(b off n:Nat)(hn:n≠2)(_hn2:n<=1000000)(w:World):
  Calls Tryz.prog 90 #[.string farW,.slice (some ⟨b,off,none⟩) n n] w (a0L w none):=by
 unfold farW;have hx:((n:Int) != 2)=true:=by simp;omega
 go_enter Tryz.func90,Tryz.ntmps90;go_wp2;go_ret;exact⟨⟨_,rfl,rfl⟩,(Below.refl _ _).alloc (Nat.le_refl _) _⟩
theorem a90(b off n:Nat)(hn:n≠3)(_hn2:n<=1000000)(w:World):
  Calls Tryz.prog 90 #[.string driftW,.slice (some ⟨b,off,none⟩) n n] w (a0L w none):=by
 unfold driftW;have hx:((n:Int) != 3)=true:=by simp;omega
 go_enter Tryz.func90,Tryz.ntmps90;go_wp2;go_ret;exact⟨⟨_,rfl,rfl⟩,(Below.refl _ _).alloc (Nat.le_refl _) _⟩
theorem aai(b off:Nat)(l:List ByteArray)(hn:l.length=1)(hsz:∀x∈l,x.size<=281474976710656)(w:World)(hr:RestAt w b off l)(hV:Vars w):
  Calls Tryz.prog 90 #[.string textW,.slice (some ⟨b,off,none⟩) 1 1] w (a0L w (a1F 0 1 l)):=by
 unfold textW;have HR:=hid hr;have HV:=hid hV;have HN:=hid hn;have HNM:=hid (fun W (h:Below w.heap.size w W)=>a2V _ _ W ((hr.below h).take 1 (by omega) (by omega)))
 have HNU:=hid (fun W (h:Below w.heap.size w W)=>a1K (.slice (some ⟨b,off,none⟩) 0 0) (l.drop 1) (by rw[List.length_drop];omega) (fun x hx=>hsz x (List.mem_of_mem_drop hx)) W
  (by
   have hd:=(hr.below h).drop 1
   have hld:(l.drop 1).length=1-1:=by rw[List.length_drop,hn]
   first
   |(have hs:=hd.strs (by omega);rw[hld]at hs;exact hs)
   |(rw[List.length_eq_zero_iff.1 hld];exact a2z _ _ _ (by omega))) (hV.below h))
 rw[hn]at HNM;clear hr hV hn hsz;obtain⟨O,hO0⟩:∃O,O=a1F 0 1 l:=⟨_,rfl⟩
 have HOO:=hid hO0;rw[<-hO0];clear hO0;go_enter Tryz.func90,Tryz.ntmps90;go_wp2_with fail
 have hb0:Below w.heap.size w ((w.alloc (.cells #[.slice none 0 0,.slice none 0 0,.func (.func 116) #[] #[]] 185))):=(Below.refl _ _).alloc (Nat.le_refl _) _
 have hO:=World.alloc_heap_new w (.cells #[.slice none 0 0,.slice none 0 0,.func (.func 116) #[] #[]] 185);refine(HNM.out _ hb0).mono ?_
 rintro e w1 ⟨rfl,hb1⟩;have hO1:=(hb1.block _ (by simp)).trans hO
 have HB1:=hid (below_trans hb0 hb1);have hz1:w.heap.size<w1.heap.size:=by have:=hb1.size;simp at this;omega
 clear hb0 hb1 hO;obtain⟨nv,hnv⟩:∃nv,nv=a2e ((l.take 1).all a01) (.slice (some ⟨b,off,none⟩) 1 1):=⟨_,rfl⟩
 have HNVV:=hid hnv;rw[<-hnv];have hsh:∃a n c,nv= .slice a n c:=by rw[hnv];unfold a2e;split<;>exact⟨_,_,_,rfl⟩
 clear hnv;obtain⟨na,nn,nc,rfl⟩:=hsh;have c0:=heap_cell (j:=0) hO1 rfl;have c1:=heap_cell (j:=1) hO1 rfl;have f0:w1.frozen? ⟨w.heap.size,0,none⟩=false:=by simp[World.frozen?,hO1]
 have HO1:=hid hO1;clear hO1;obtain⟨bn,hbn⟩:∃bn,bn=(l.take 1).all a01:=⟨_,rfl⟩
 have HBN:=hid hbn;rw[<-hbn];clear hbn;go_wp2_with fail
 have hB2:=a2J (b:=w.heap.size) (k:=0) (v:=.slice na nn nc) HB1.out (Nat.le_refl _);refine(HNU.out _ hB2).mono ?_
 rintro e w2 ⟨hr2,hb2⟩
 have hO2:w2.heap[w.heap.size]? =some (.cells #[.slice na nn nc,.slice none 0 0,.func (.func 116) #[] #[]] 185 (0,0)):=(hb2.block _ (by simpa using hz1)).trans (by
  have:=Boxed.set3 HO1.out 0 (.slice na nn nc);simpa using this)
 have c20:=heap_cell (j:=0) hO2 rfl;have c21:=heap_cell (j:=1) hO2 rfl;have c22:=heap_cell (j:=2) hO2 rfl;have f20:w2.frozen? ⟨w.heap.size,1,none⟩=false:=by simp[World.frozen?,hO2]
 have HB2:=hid (hB2.trans (hb2.mono (by simp;omega)));have HB3:Hid (∀v,Below w.heap.size w (w2.setCell ⟨w.heap.size,1,none⟩ v)):=hid (fun v=>HB2.out.setCell (p:=⟨w.heap.size,1,none⟩) (Nat.le_refl _) _)
 have hR:∃a n c,∃bb,e= .returned (.tuple #[.slice a n c,.bool bb])/\Hid (bb=(allS numV (l.drop 1)).isSome/\∀ns,allS numV (l.drop 1)=some ns->∀u,IntsAt (w2.setCell ⟨w.heap.size,1,none⟩ u) (.slice a n c) ns):=by
  cases hx:allS numV (l.drop 1)with
  |some ns=>
   rw[hx]at hr2;obtain⟨v,rfl,ho⟩:=hr2;obtain⟨a,c,rfl⟩:=own_shape ho;have hl2:=allS_len _ _ _ hx;rw[List.length_drop,HN.out]at hl2;exact⟨_,_,_,_,rfl,hid ⟨rfl,fun ns' h u=>by cases h;exact a1S (a2j ho (fun k hk=>Below.heap_setCell _ _ _ _ (by simp only[World.size_setCell]at hk;show k≠w.heap.size;omega))) (by omega)⟩⟩
  |none=>rw[hx]at hr2;exact⟨_,_,_,_,hr2,hid ⟨rfl,fun ns' h u=>by cases h⟩⟩
 obtain⟨ra,rn,rc,rb,rfl,HRR⟩:=hR;clear hr2 hB2 hb2 hO2 c0 c1 f0;cases bn with
 |false=>
  go_wp2;go_ret;exact⟨⟨_,rfl,by rw[HOO.out,a4r HBN.out.symm];rfl⟩,HB3.out _⟩
 | true=>
  cases rb with
  |false=>
   go_wp2;go_ret;exact⟨⟨_,rfl,by rw[HOO.out,a3w (by have:=HRR.out.1;cases hx:allS numV (l.drop 1)with|none=>rfl|some ns=>rw[hx]at this;cases this)];rfl⟩,HB3.out _⟩
  | true=>
   go_wp2;go_ret;have h1:=HRR.out;cases hx:allS numV (l.drop 1)with
   |none=>rw[hx]at h1;cases h1.1
   |some ns=>
    refine⟨⟨_,rfl,?_⟩,HB3.out _⟩;rw[HOO.out,a3x HBN.out.symm hx];have h2:=HNVV.out;rw[<-HBN.out]at h2;refine⟨.slice na nn nc,.slice ra rn rc,rfl,?_,h1.2 ns hx _⟩;rw[h2];exact(HR.out.below (HB3.out _)).take 1 (by rw[HN.out];omega) (by rw[HN.out];omega) |> (fun h=>by rw[HN.out]at h;exact h)
theorem aaj(b off:Nat)(l:List ByteArray)(hn:l.length=1)(hsz:∀x∈l,x.size<=281474976710656)(w:World)(hr:RestAt w b off l)(hV:Vars w):
  Calls Tryz.prog 90 #[.string beatW,.slice (some ⟨b,off,none⟩) 1 1] w (a0L w (a1F 1 1 l)):=by
 unfold beatW;have HR:=hid hr;have HV:=hid hV;have HN:=hid hn;have HNM:=hid (fun W (h:Below w.heap.size w W)=>a2V _ _ W ((hr.below h).take 1 (by omega) (by omega)))
 have HNU:=hid (fun W (h:Below w.heap.size w W)=>a1K (.slice (some ⟨b,off,none⟩) 0 0) (l.drop 1) (by rw[List.length_drop];omega) (fun x hx=>hsz x (List.mem_of_mem_drop hx)) W
  (by
   have hd:=(hr.below h).drop 1
   have hld:(l.drop 1).length=1-1:=by rw[List.length_drop,hn]
   first
   |(have hs:=hd.strs (by omega);rw[hld]at hs;exact hs)
   |(rw[List.length_eq_zero_iff.1 hld];exact a2z _ _ _ (by omega))) (hV.below h))
 rw[hn]at HNM;clear hr hV hn hsz;obtain⟨O,hO0⟩:∃O,O=a1F 1 1 l:=⟨_,rfl⟩
 have HOO:=hid hO0;rw[<-hO0];clear hO0;go_enter Tryz.func90,Tryz.ntmps90;go_wp2_with fail
 have hb0:Below w.heap.size w ((w.alloc (.cells #[.slice none 0 0,.slice none 0 0,.func (.func 117) #[] #[]] 185))):=(Below.refl _ _).alloc (Nat.le_refl _) _
 have hO:=World.alloc_heap_new w (.cells #[.slice none 0 0,.slice none 0 0,.func (.func 117) #[] #[]] 185);refine(HNM.out _ hb0).mono ?_
 rintro e w1 ⟨rfl,hb1⟩;have hO1:=(hb1.block _ (by simp)).trans hO
 have HB1:=hid (below_trans hb0 hb1);have hz1:w.heap.size<w1.heap.size:=by have:=hb1.size;simp at this;omega
 clear hb0 hb1 hO;obtain⟨nv,hnv⟩:∃nv,nv=a2e ((l.take 1).all a01) (.slice (some ⟨b,off,none⟩) 1 1):=⟨_,rfl⟩
 have HNVV:=hid hnv;rw[<-hnv];have hsh:∃a n c,nv= .slice a n c:=by rw[hnv];unfold a2e;split<;>exact⟨_,_,_,rfl⟩
 clear hnv;obtain⟨na,nn,nc,rfl⟩:=hsh;have c0:=heap_cell (j:=0) hO1 rfl;have c1:=heap_cell (j:=1) hO1 rfl;have f0:w1.frozen? ⟨w.heap.size,0,none⟩=false:=by simp[World.frozen?,hO1]
 have HO1:=hid hO1;clear hO1;obtain⟨bn,hbn⟩:∃bn,bn=(l.take 1).all a01:=⟨_,rfl⟩
 have HBN:=hid hbn;rw[<-hbn];clear hbn;go_wp2_with fail
 have hB2:=a2J (b:=w.heap.size) (k:=0) (v:=.slice na nn nc) HB1.out (Nat.le_refl _);refine(HNU.out _ hB2).mono ?_
 rintro e w2 ⟨hr2,hb2⟩
 have hO2:w2.heap[w.heap.size]? =some (.cells #[.slice na nn nc,.slice none 0 0,.func (.func 117) #[] #[]] 185 (0,0)):=(hb2.block _ (by simpa using hz1)).trans (by
  have:=Boxed.set3 HO1.out 0 (.slice na nn nc);simpa using this)
 have c20:=heap_cell (j:=0) hO2 rfl;have c21:=heap_cell (j:=1) hO2 rfl;have c22:=heap_cell (j:=2) hO2 rfl;have f20:w2.frozen? ⟨w.heap.size,1,none⟩=false:=by simp[World.frozen?,hO2]
 have HB2:=hid (hB2.trans (hb2.mono (by simp;omega)));have HB3:Hid (∀v,Below w.heap.size w (w2.setCell ⟨w.heap.size,1,none⟩ v)):=hid (fun v=>HB2.out.setCell (p:=⟨w.heap.size,1,none⟩) (Nat.le_refl _) _)
 have hR:∃a n c,∃bb,e= .returned (.tuple #[.slice a n c,.bool bb])/\Hid (bb=(allS numV (l.drop 1)).isSome/\∀ns,allS numV (l.drop 1)=some ns->∀u,IntsAt (w2.setCell ⟨w.heap.size,1,none⟩ u) (.slice a n c) ns):=by
  cases hx:allS numV (l.drop 1)with
  |some ns=>
   rw[hx]at hr2;obtain⟨v,rfl,ho⟩:=hr2;obtain⟨a,c,rfl⟩:=own_shape ho;have hl2:=allS_len _ _ _ hx;rw[List.length_drop,HN.out]at hl2;exact⟨_,_,_,_,rfl,hid ⟨rfl,fun ns' h u=>by cases h;exact a1S (a2j ho (fun k hk=>Below.heap_setCell _ _ _ _ (by simp only[World.size_setCell]at hk;show k≠w.heap.size;omega))) (by omega)⟩⟩
  |none=>rw[hx]at hr2;exact⟨_,_,_,_,hr2,hid ⟨rfl,fun ns' h u=>by cases h⟩⟩
 obtain⟨ra,rn,rc,rb,rfl,HRR⟩:=hR;clear hr2 hB2 hb2 hO2 c0 c1 f0;cases bn with
 |false=>
  go_wp2;go_ret;exact⟨⟨_,rfl,by rw[HOO.out,a4r HBN.out.symm];rfl⟩,HB3.out _⟩
 | true=>
  cases rb with
  |false=>
   go_wp2;go_ret;exact⟨⟨_,rfl,by rw[HOO.out,a3w (by have:=HRR.out.1;cases hx:allS numV (l.drop 1)with|none=>rfl|some ns=>rw[hx]at this;cases this)];rfl⟩,HB3.out _⟩
  | true=>
   go_wp2;go_ret;have h1:=HRR.out;cases hx:allS numV (l.drop 1)with
   |none=>rw[hx]at h1;cases h1.1
   |some ns=>
    refine⟨⟨_,rfl,?_⟩,HB3.out _⟩;rw[HOO.out,a3x HBN.out.symm hx];have h2:=HNVV.out;rw[<-HBN.out]at h2;refine⟨.slice na nn nc,.slice ra rn rc,rfl,?_,h1.2 ns hx _⟩;rw[h2];exact(HR.out.below (HB3.out _)).take 1 (by rw[HN.out];omega) (by rw[HN.out];omega) |> (fun h=>by rw[HN.out]at h;exact h)
theorem aaI(b off:Nat)(l:List ByteArray)(hn:l.length=2)(hsz:∀x∈l,x.size<=281474976710656)(w:World)(hr:RestAt w b off l)(hV:Vars w):
  Calls Tryz.prog 90 #[.string farW,.slice (some ⟨b,off,none⟩) 2 2] w (a0L w (a1F 2 2 l)):=by
 unfold farW;have HR:=hid hr;have HV:=hid hV;have HN:=hid hn;have HNM:=hid (fun W (h:Below w.heap.size w W)=>a2V _ _ W ((hr.below h).take 2 (by omega) (by omega)))
 have HNU:=hid (fun W (h:Below w.heap.size w W)=>a1K (.slice (some ⟨b,off,none⟩) 0 0) (l.drop 2) (by rw[List.length_drop];omega) (fun x hx=>hsz x (List.mem_of_mem_drop hx)) W
  (by
   have hd:=(hr.below h).drop 2
   have hld:(l.drop 2).length=2-2:=by rw[List.length_drop,hn]
   first
   |(have hs:=hd.strs (by omega);rw[hld]at hs;exact hs)
   |(rw[List.length_eq_zero_iff.1 hld];exact a2z _ _ _ (by omega))) (hV.below h))
 rw[hn]at HNM;clear hr hV hn hsz;obtain⟨O,hO0⟩:∃O,O=a1F 2 2 l:=⟨_,rfl⟩
 have HOO:=hid hO0;rw[<-hO0];clear hO0;go_enter Tryz.func90,Tryz.ntmps90;go_wp2_with fail
 have hb0:Below w.heap.size w ((w.alloc (.cells #[.slice none 0 0,.slice none 0 0,.func (.func 118) #[] #[]] 185))):=(Below.refl _ _).alloc (Nat.le_refl _) _
 have hO:=World.alloc_heap_new w (.cells #[.slice none 0 0,.slice none 0 0,.func (.func 118) #[] #[]] 185);refine(HNM.out _ hb0).mono ?_
 rintro e w1 ⟨rfl,hb1⟩;have hO1:=(hb1.block _ (by simp)).trans hO
 have HB1:=hid (below_trans hb0 hb1);have hz1:w.heap.size<w1.heap.size:=by have:=hb1.size;simp at this;omega
 clear hb0 hb1 hO;obtain⟨nv,hnv⟩:∃nv,nv=a2e ((l.take 2).all a01) (.slice (some ⟨b,off,none⟩) 2 2):=⟨_,rfl⟩
 have HNVV:=hid hnv;rw[<-hnv];have hsh:∃a n c,nv= .slice a n c:=by rw[hnv];unfold a2e;split<;>exact⟨_,_,_,rfl⟩
 clear hnv;obtain⟨na,nn,nc,rfl⟩:=hsh;have c0:=heap_cell (j:=0) hO1 rfl;have c1:=heap_cell (j:=1) hO1 rfl;have f0:w1.frozen? ⟨w.heap.size,0,none⟩=false:=by simp[World.frozen?,hO1]
 have HO1:=hid hO1;clear hO1;obtain⟨bn,hbn⟩:∃bn,bn=(l.take 2).all a01:=⟨_,rfl⟩
 have HBN:=hid hbn;rw[<-hbn];clear hbn;go_wp2_with fail
 have hB2:=a2J (b:=w.heap.size) (k:=0) (v:=.slice na nn nc) HB1.out (Nat.le_refl _);refine(HNU.out _ hB2).mono ?_
 rintro e w2 ⟨hr2,hb2⟩
 have hO2:w2.heap[w.heap.size]? =some (.cells #[.slice na nn nc,.slice none 0 0,.func (.func 118) #[] #[]] 185 (0,0)):=(hb2.block _ (by simpa using hz1)).trans (by
  have:=Boxed.set3 HO1.out 0 (.slice na nn nc);simpa using this)
 have c20:=heap_cell (j:=0) hO2 rfl;have c21:=heap_cell (j:=1) hO2 rfl;have c22:=heap_cell (j:=2) hO2 rfl;have f20:w2.frozen? ⟨w.heap.size,1,none⟩=false:=by simp[World.frozen?,hO2]
 have HB2:=hid (hB2.trans (hb2.mono (by simp;omega)));have HB3:Hid (∀v,Below w.heap.size w (w2.setCell ⟨w.heap.size,1,none⟩ v)):=hid (fun v=>HB2.out.setCell (p:=⟨w.heap.size,1,none⟩) (Nat.le_refl _) _)
 have hR:∃a n c,∃bb,e= .returned (.tuple #[.slice a n c,.bool bb])/\Hid (bb=(allS numV (l.drop 2)).isSome/\∀ns,allS numV (l.drop 2)=some ns->∀u,IntsAt (w2.setCell ⟨w.heap.size,1,none⟩ u) (.slice a n c) ns):=by
  cases hx:allS numV (l.drop 2)with
  |some ns=>
   rw[hx]at hr2;obtain⟨v,rfl,ho⟩:=hr2;obtain⟨a,c,rfl⟩:=own_shape ho;have hl2:=allS_len _ _ _ hx;rw[List.length_drop,HN.out]at hl2;exact⟨_,_,_,_,rfl,hid ⟨rfl,fun ns' h u=>by cases h;exact a1S (a2j ho (fun k hk=>Below.heap_setCell _ _ _ _ (by simp only[World.size_setCell]at hk;show k≠w.heap.size;omega))) (by omega)⟩⟩
  |none=>rw[hx]at hr2;exact⟨_,_,_,_,hr2,hid ⟨rfl,fun ns' h u=>by cases h⟩⟩
 obtain⟨ra,rn,rc,rb,rfl,HRR⟩:=hR;clear hr2 hB2 hb2 hO2 c0 c1 f0;cases bn with
 |false=>
  go_wp2;go_ret;exact⟨⟨_,rfl,by rw[HOO.out,a4r HBN.out.symm];rfl⟩,HB3.out _⟩
 | true=>
  cases rb with
  |false=>
   go_wp2;go_ret;exact⟨⟨_,rfl,by rw[HOO.out,a3w (by have:=HRR.out.1;cases hx:allS numV (l.drop 2)with|none=>rfl|some ns=>rw[hx]at this;cases this)];rfl⟩,HB3.out _⟩
  | true=>
   go_wp2;go_ret;have h1:=HRR.out;cases hx:allS numV (l.drop 2)with
   |none=>rw[hx]at h1;cases h1.1
   |some ns=>
    refine⟨⟨_,rfl,?_⟩,HB3.out _⟩;rw[HOO.out,a3x HBN.out.symm hx];have h2:=HNVV.out;rw[<-HBN.out]at h2;refine⟨.slice na nn nc,.slice ra rn rc,rfl,?_,h1.2 ns hx _⟩;rw[h2];exact(HR.out.below (HB3.out _)).take 2 (by rw[HN.out];omega) (by rw[HN.out];omega) |> (fun h=>by rw[HN.out]at h;exact h)
theorem a91(b off:Nat)(l:List ByteArray)(hn:l.length=3)(hsz:∀x∈l,x.size<=281474976710656)(w:World)(hr:RestAt w b off l)(hV:Vars w):
  Calls Tryz.prog 90 #[.string driftW,.slice (some ⟨b,off,none⟩) 3 3] w (a0L w (a1F 3 1 l)):=by
 unfold driftW;have HR:=hid hr;have HV:=hid hV;have HN:=hid hn;have HNM:=hid (fun W (h:Below w.heap.size w W)=>a2V _ _ W ((hr.below h).take 1 (by omega) (by omega)))
 have HNU:=hid (fun W (h:Below w.heap.size w W)=>a1K (.slice (some ⟨b,off+1,none⟩) 2 2) (l.drop 1) (by rw[List.length_drop];omega) (fun x hx=>hsz x (List.mem_of_mem_drop hx)) W
  (by
   have hd:=(hr.below h).drop 1
   have hld:(l.drop 1).length=3-1:=by rw[List.length_drop,hn]
   first
   |(have hs:=hd.strs (by omega);rw[hld]at hs;exact hs)
   |(rw[List.length_eq_zero_iff.1 hld];exact a2z _ _ _ (by omega))) (hV.below h))
 rw[hn]at HNM;clear hr hV hn hsz;obtain⟨O,hO0⟩:∃O,O=a1F 3 1 l:=⟨_,rfl⟩
 have HOO:=hid hO0;rw[<-hO0];clear hO0;go_enter Tryz.func90,Tryz.ntmps90;go_wp2_with fail
 have hb0:Below w.heap.size w ((w.alloc (.cells #[.slice none 0 0,.slice none 0 0,.func (.func 119) #[] #[]] 185))):=(Below.refl _ _).alloc (Nat.le_refl _) _
 have hO:=World.alloc_heap_new w (.cells #[.slice none 0 0,.slice none 0 0,.func (.func 119) #[] #[]] 185);refine(HNM.out _ hb0).mono ?_
 rintro e w1 ⟨rfl,hb1⟩;have hO1:=(hb1.block _ (by simp)).trans hO
 have HB1:=hid (below_trans hb0 hb1);have hz1:w.heap.size<w1.heap.size:=by have:=hb1.size;simp at this;omega
 clear hb0 hb1 hO;obtain⟨nv,hnv⟩:∃nv,nv=a2e ((l.take 1).all a01) (.slice (some ⟨b,off,none⟩) 1 3):=⟨_,rfl⟩
 have HNVV:=hid hnv;rw[<-hnv];have hsh:∃a n c,nv= .slice a n c:=by rw[hnv];unfold a2e;split<;>exact⟨_,_,_,rfl⟩
 clear hnv;obtain⟨na,nn,nc,rfl⟩:=hsh;have c0:=heap_cell (j:=0) hO1 rfl;have c1:=heap_cell (j:=1) hO1 rfl;have f0:w1.frozen? ⟨w.heap.size,0,none⟩=false:=by simp[World.frozen?,hO1]
 have HO1:=hid hO1;clear hO1;obtain⟨bn,hbn⟩:∃bn,bn=(l.take 1).all a01:=⟨_,rfl⟩
 have HBN:=hid hbn;rw[<-hbn];clear hbn;go_wp2_with fail
 have hB2:=a2J (b:=w.heap.size) (k:=0) (v:=.slice na nn nc) HB1.out (Nat.le_refl _);refine(HNU.out _ hB2).mono ?_
 rintro e w2 ⟨hr2,hb2⟩
 have hO2:w2.heap[w.heap.size]? =some (.cells #[.slice na nn nc,.slice none 0 0,.func (.func 119) #[] #[]] 185 (0,0)):=(hb2.block _ (by simpa using hz1)).trans (by
  have:=Boxed.set3 HO1.out 0 (.slice na nn nc);simpa using this)
 have c20:=heap_cell (j:=0) hO2 rfl;have c21:=heap_cell (j:=1) hO2 rfl;have c22:=heap_cell (j:=2) hO2 rfl;have f20:w2.frozen? ⟨w.heap.size,1,none⟩=false:=by simp[World.frozen?,hO2]
 have HB2:=hid (hB2.trans (hb2.mono (by simp;omega)));have HB3:Hid (∀v,Below w.heap.size w (w2.setCell ⟨w.heap.size,1,none⟩ v)):=hid (fun v=>HB2.out.setCell (p:=⟨w.heap.size,1,none⟩) (Nat.le_refl _) _)
 have hR:∃a n c,∃bb,e= .returned (.tuple #[.slice a n c,.bool bb])/\Hid (bb=(allS numV (l.drop 1)).isSome/\∀ns,allS numV (l.drop 1)=some ns->∀u,IntsAt (w2.setCell ⟨w.heap.size,1,none⟩ u) (.slice a n c) ns):=by
  cases hx:allS numV (l.drop 1)with
  |some ns=>
   rw[hx]at hr2;obtain⟨v,rfl,ho⟩:=hr2;obtain⟨a,c,rfl⟩:=own_shape ho;have hl2:=allS_len _ _ _ hx;rw[List.length_drop,HN.out]at hl2;exact⟨_,_,_,_,rfl,hid ⟨rfl,fun ns' h u=>by cases h;exact a1S (a2j ho (fun k hk=>Below.heap_setCell _ _ _ _ (by simp only[World.size_setCell]at hk;show k≠w.heap.size;omega))) (by omega)⟩⟩
  |none=>rw[hx]at hr2;exact⟨_,_,_,_,hr2,hid ⟨rfl,fun ns' h u=>by cases h⟩⟩
 obtain⟨ra,rn,rc,rb,rfl,HRR⟩:=hR;clear hr2 hB2 hb2 hO2 c0 c1 f0;cases bn with
 |false=>
  go_wp2;go_ret;exact⟨⟨_,rfl,by rw[HOO.out,a4r HBN.out.symm];rfl⟩,HB3.out _⟩
 | true=>
  cases rb with
  |false=>
   go_wp2;go_ret;exact⟨⟨_,rfl,by rw[HOO.out,a3w (by have:=HRR.out.1;cases hx:allS numV (l.drop 1)with|none=>rfl|some ns=>rw[hx]at this;cases this)];rfl⟩,HB3.out _⟩
  | true=>
   go_wp2;go_ret;have h1:=HRR.out;cases hx:allS numV (l.drop 1)with
   |none=>rw[hx]at h1;cases h1.1
   |some ns=>
    refine⟨⟨_,rfl,?_⟩,HB3.out _⟩;rw[HOO.out,a3x HBN.out.symm hx];have h2:=HNVV.out;rw[<-HBN.out]at h2;refine⟨.slice na nn nc,.slice ra rn rc,rfl,?_,h1.2 ns hx _⟩;rw[h2];exact(HR.out.below (HB3.out _)).take 1 (by rw[HN.out];omega) (by rw[HN.out];omega) |> (fun h=>by rw[HN.out]at h;exact h)
theorem adC:a2v textW=some (0,1,0):=rfl
theorem adD:a2v beatW=some (1,1,0):=rfl
theorem afj:a2v farW=some (2,2,0):=rfl
theorem ace:a2v driftW=some (3,1,2):=rfl
theorem afk(x:ByteArray)(b off:Nat)(l:List ByteArray)(hl:l.length<=1000000)(hsz:∀y∈l,y.size<=281474976710656)(w:World)(hr:RestAt w b off l)(hV:Vars w):
  Calls Tryz.prog 90 #[.string x,.slice (some ⟨b,off,none⟩) l.length l.length] w (a0L w (a1x x l)):=by
 unfold a1x;by_cases h1:x=textW
 ·subst h1;rw[adC];by_cases hn:l.length=1
  ·simp only[hn,ne_eq,not_true,if_false];exact aai b off l hn hsz w hr hV
  simp only[hn,ne_eq,not_false_eq_true,if_true];exact aag b off _ hn hl w
 by_cases h2:x=beatW
 ·subst h2;rw[adD];by_cases hn:l.length=1
  ·simp only[hn,ne_eq,not_true,if_false];exact aaj b off l hn hsz w hr hV
  simp only[hn,ne_eq,not_false_eq_true,if_true];exact aah b off _ hn hl w
 by_cases h3:x=farW
 ·subst h3;rw[afj];by_cases hn:l.length=2
  ·simp only[hn,ne_eq,not_true,if_false];exact aaI b off l hn hsz w hr hV
  simp only[hn,ne_eq,not_false_eq_true,if_true];exact aaH b off _ hn hl w
 by_cases h4:x=driftW
 ·subst h4;rw[ace];by_cases hn:l.length=3
  ·simp only[hn,ne_eq,not_true,if_false];exact a91 b off l hn hsz w hr hV
  simp only[hn,ne_eq,not_false_eq_true,if_true];exact a90 b off _ hn hl w
 have hk:a2v x=none:=by unfold a2v;rw[if_neg h1,if_neg h2,if_neg h3,if_neg h4]
 rw[hk];exact adA x _ w hk
theorem a1e(s:ByteArray)(hs:s.size<=1000000)(w:World)(hV:Vars w){w0 r0:ByteArray}{rs:List ByteArray}(h:splitA 32 s=w0::r0::rs)(m:Nat)(hm:rs.length+1=m):
  Calls Tryz.prog 84 #[.string s] w fun e w'=>e= .returned (.tuple #[.string w0,.slice (some ⟨w.heap.size,1,none⟩) m m])/\RestAt w' w.heap.size 1 (r0::rs)/\Below w.heap.size w w':=by
 have S:=a9v s (by omega) w hV;rw[h]at S;refine S.mono ?_;rintro e w' ⟨⟨a,c,rfl,hc⟩,hb⟩;subst hm;obtain⟨rfl,rfl,hq⟩:=hc (by simp);refine⟨rfl,fun j hj=>?_,hb⟩;have:=hq j (by simpa using hj);rw[this];rfl
theorem afl(s:ByteArray)(hs:s.size<=1000000)(w:World)(hV:Vars w){w0:ByteArray}(h:splitA 32 s=[w0]):
  Calls Tryz.prog 84 #[.string s] w fun e w'=>(∃a c,e= .returned (.tuple #[.string w0,.slice a 0 c]))/\Below w.heap.size w w':=by
 have S:=a9v s (by omega) w hV;rw[h]at S;refine S.mono ?_;rintro e w' ⟨⟨a,c,rfl,hc⟩,hb⟩;exact⟨⟨a,c,rfl⟩,hb⟩
theorem a0E{s w0 r0:ByteArray}{rs:List ByteArray}(h:splitA 32 s=w0::r0::rs):a02 s=a0B w0 r0 rs s:=by unfold a02;rw[h]
theorem a0Q{s w0 r0:ByteArray}{rs:List ByteArray}(hs:s.size<=1000000)(h:splitA 32 s=w0::r0::rs):rs.length+1<=1000000:=by
 have h1:=splitA_len 32 s;rw[h]at h1;have:=List.count_le_length (a:=(32:UInt8)) (l:=s.data.toList);rw[<-a03]at this;simp only[List.length_cons]at h1;omega
theorem a1y{s w0 r0:ByteArray}{rs:List ByteArray}(hs:s.size<=1000000)(h:splitA 32 s=w0::r0::rs):∀x∈r0::rs,x.size<=281474976710656:=fun x hx=>by
 have:=a6X (c:=32) (s:=s) (x:=x) (by rw[h];simp only[List.mem_cons]at hx⊢;exact .inr hx);omega
theorem afm(s:ByteArray)(hs:s.size<=1000000)(w:World)(hV:Vars w){w0:ByteArray}(h:splitA 32 s=[w0]):
  Calls Tryz.prog 54 #[.string s] w (a0L w (a02 s)):=by
 have hp:a02 s=none:=by unfold a02;rw[h]
 rw[hp];have HS:=hid (afl s hs w hV h);clear hV h hp;go_enter Tryz.func54,Tryz.ntmps54;go_wp2_with fail
 refine HS.out.mono ?_;rintro e w1 ⟨⟨a,c,rfl⟩,hb1⟩;have HB1:=hid hb1;clear hb1;go_wp2;go_ret;exact⟨⟨_,rfl,rfl⟩,HB1.out⟩
theorem acf(s:ByteArray)(hs:s.size<=1000000)(w:World)(hV:Vars w){w0 r0:ByteArray}{rs:List ByteArray}(h:splitA 32 s=w0::r0::rs)
  (n1:w0≠putW)(n2:w0≠dropW)(n3:w0≠stockW)(n4:w0≠addW)(n5:w0≠shareW):
  Calls Tryz.prog 54 #[.string s] w (a0L w (a02 s)):=by
 have hnl:a02 s=a1x w0 (r0::rs):=by rw[a0E h];unfold a0B;rw[if_neg n1,if_neg n2,if_neg n3,if_neg n4,if_neg n5]
 have HNL:=hid hnl;have k1:=a0u n1;have k2:=a0u n2;have k3:=a0u n3;have k4:=a0u n4;have k5:=a0u n5;have HS:=hid (a1e s hs w hV h (rs.length+1) rfl);have HL:=hid (a0Q hs h);have HSZ:=hid (a1y hs h);have HV:=hid hV;obtain⟨O,hO0⟩:∃O,O=a02 s:=⟨_,rfl⟩
 have HO:=hid (hO0.trans (a0E h));have HH:=hid h;rw[<-hO0];clear hO0 hV h;have hL:=HL.out;have z1:((rs.length:Int)+1==0)=false:=by simp;omega
 have HOL:Hid (O=a1x w0 (r0::rs)):=hid (by rw[HO.out,<-a0E HH.out];exact HNL.out);clear n1 n2 n3 n4 n5 hnl;go_enter Tryz.func54,Tryz.ntmps54;go_wp2_with fail
 refine HS.out.mono ?_;rintro e w1 ⟨rfl,hr1,hb1⟩;have c0:w1.cell? ⟨w.heap.size,1,none⟩=some (.string r0):=hr1 0 (by simp);have HR1:=hid hr1;have HB1:=hid hb1;clear hr1 hb1;go_wp2_with fail
 refine(afk w0 w.heap.size 1 (r0::rs) (by simp only[List.length_cons];exact HL.out) HSZ.out w1 HR1.out (HV.out.below HB1.out)).mono ?_
 rintro e w2 ⟨⟨v,rfl,hv⟩,hb2⟩;have HV2:=hid hv;have HB2:=hid hb2;clear hv hb2;go_wp2;go_ret;exact⟨⟨v,rfl,by rw[HOL.out];exact HV2.out⟩,below_trans HB1.out HB2.out⟩
theorem a62{r0 s:ByteArray}{rs:List ByteArray}:a0B dropW r0 rs s=if decide (rs=[])&&a01 r0 then some (.drop r0)else none:=rfl
theorem a5h{r0 s:ByteArray}{rs:List ByteArray}:a0B stockW r0 rs s=if decide (rs=[])&&a01 r0 then some (.stock r0)else none:=rfl
theorem a7P(s:ByteArray)(hs:s.size<=1000000)(w:World)(hV:Vars w){r0:ByteArray}{rs:List ByteArray}(h:splitA 32 s=dropW::r0::rs)(hr:rs≠[]):
  Calls Tryz.prog 54 #[.string s] w (a0L w (a02 s)):=by
 have hm:1<=rs.length:=List.length_pos_iff.2 hr;have HR0:=hid hr;clear hr;have HS:=hid (a1e s hs w hV h (rs.length+1) rfl);have HL:=hid (a0Q hs h);have HSZ:=hid (a1y hs h);have HV:=hid hV;obtain⟨O,hO0⟩:∃O,O=a02 s:=⟨_,rfl⟩
 have HO:=hid (hO0.trans (a0E h));have HH:=hid h;rw[<-hO0];clear hO0 hV h;have HOL:Hid (O=none):=hid (by rw[HO.out,a62,decide_eq_false HR0.out];rfl);have hL:=HL.out;have z1:((rs.length:Int)+1==0)=false:=by simp;omega
 have z2:((rs.length:Int)+1 != 1)=true:=by simp;omega
 unfold dropW at HS;go_enter Tryz.func54,Tryz.ntmps54;go_wp2_with fail
 refine HS.out.mono ?_;rintro e w1 ⟨rfl,hr1,hb1⟩;have c0:w1.cell? ⟨w.heap.size,1,none⟩=some (.string r0):=hr1 0 (by simp);have HR1:=hid hr1;have HB1:=hid hb1;clear hr1 hb1;go_wp2;go_ret;exact⟨⟨_,rfl,by rw[HOL.out];rfl⟩,HB1.out⟩
theorem a92(s:ByteArray)(hs:s.size<=1000000)(w:World)(hV:Vars w){r0:ByteArray}(h:splitA 32 s=[dropW,r0]):
  Calls Tryz.prog 54 #[.string s] w (a0L w (a02 s)):=by
 have HS:=hid (a1e s hs w hV h 1 rfl);have HL:=hid (a0Q hs h);have HSZ:=hid (a1y hs h);have HV:=hid hV;obtain⟨O,hO0⟩:∃O,O=a02 s:=⟨_,rfl⟩
 have HO:=hid (hO0.trans (a0E h));have HH:=hid h;rw[<-hO0];clear hO0 hV h;have NC:=hid (fun W=>a2x r0 W);unfold dropW at HS;cases hn:a01 r0 with
 |true=>
  rw[hn]at NC;have HOL:Hid (O=some (.drop r0)):=hid (by rw[HO.out,a62,hn];rfl);clear hn;go_enter Tryz.func54,Tryz.ntmps54;go_wp2_with fail
  refine HS.out.mono ?_;rintro e w1 ⟨rfl,hr1,hb1⟩;have c0:w1.cell? ⟨w.heap.size,1,none⟩=some (.string r0):=hr1 0 (by simp);have HR1:=hid hr1;have HB1:=hid hb1;clear hr1 hb1;go_wp2_with fail
  refine(NC.out _).mono ?_
  rintro e w2 ⟨rfl,hb2⟩;have c2:=keep_cell hb2 c0;have HB2:=hid (below_trans HB1.out hb2);clear hb2;go_wp2;go_ret;exact⟨⟨_,rfl,by rw[HOL.out];rfl⟩,HB2.out⟩
 |false=>
  rw[hn]at NC;have HOL:Hid (O=none):=hid (by rw[HO.out,a62,hn];rfl);clear hn;go_enter Tryz.func54,Tryz.ntmps54;go_wp2_with fail
  refine HS.out.mono ?_;rintro e w1 ⟨rfl,hr1,hb1⟩;have c0:w1.cell? ⟨w.heap.size,1,none⟩=some (.string r0):=hr1 0 (by simp);have HR1:=hid hr1;have HB1:=hid hb1;clear hr1 hb1;go_wp2_with fail
  refine(NC.out _).mono ?_
  rintro e w2 ⟨rfl,hb2⟩;have HB2:=hid (below_trans HB1.out hb2);clear hb2;go_wp2;go_ret;exact⟨⟨_,rfl,by rw[HOL.out];rfl⟩,HB2.out⟩
theorem a7m(s:ByteArray)(hs:s.size<=1000000)(w:World)(hV:Vars w){r0:ByteArray}{rs:List ByteArray}(h:splitA 32 s=stockW::r0::rs)(hr:rs≠[]):
  Calls Tryz.prog 54 #[.string s] w (a0L w (a02 s)):=by
 have hm:1<=rs.length:=List.length_pos_iff.2 hr;have HR0:=hid hr;clear hr;have HS:=hid (a1e s hs w hV h (rs.length+1) rfl);have HL:=hid (a0Q hs h);have HSZ:=hid (a1y hs h);have HV:=hid hV;obtain⟨O,hO0⟩:∃O,O=a02 s:=⟨_,rfl⟩
 have HO:=hid (hO0.trans (a0E h));have HH:=hid h;rw[<-hO0];clear hO0 hV h;have HOL:Hid (O=none):=hid (by rw[HO.out,a5h,decide_eq_false HR0.out];rfl);have hL:=HL.out;have z1:((rs.length:Int)+1==0)=false:=by simp;omega
 have z2:((rs.length:Int)+1 != 1)=true:=by simp;omega
 unfold stockW at HS;go_enter Tryz.func54,Tryz.ntmps54;go_wp2_with fail
 refine HS.out.mono ?_;rintro e w1 ⟨rfl,hr1,hb1⟩;have c0:w1.cell? ⟨w.heap.size,1,none⟩=some (.string r0):=hr1 0 (by simp);have HR1:=hid hr1;have HB1:=hid hb1;clear hr1 hb1;go_wp2;go_ret;exact⟨⟨_,rfl,by rw[HOL.out];rfl⟩,HB1.out⟩
theorem a7Q(s:ByteArray)(hs:s.size<=1000000)(w:World)(hV:Vars w){r0:ByteArray}(h:splitA 32 s=[stockW,r0]):
  Calls Tryz.prog 54 #[.string s] w (a0L w (a02 s)):=by
 have HS:=hid (a1e s hs w hV h 1 rfl);have HL:=hid (a0Q hs h);have HSZ:=hid (a1y hs h);have HV:=hid hV;obtain⟨O,hO0⟩:∃O,O=a02 s:=⟨_,rfl⟩
 have HO:=hid (hO0.trans (a0E h));have HH:=hid h;rw[<-hO0];clear hO0 hV h;have NC:=hid (fun W=>a2x r0 W);unfold stockW at HS;cases hn:a01 r0 with
 |true=>
  rw[hn]at NC;have HOL:Hid (O=some (.stock r0)):=hid (by rw[HO.out,a5h,hn];rfl);clear hn;go_enter Tryz.func54,Tryz.ntmps54;go_wp2_with fail
  refine HS.out.mono ?_;rintro e w1 ⟨rfl,hr1,hb1⟩;have c0:w1.cell? ⟨w.heap.size,1,none⟩=some (.string r0):=hr1 0 (by simp);have HR1:=hid hr1;have HB1:=hid hb1;clear hr1 hb1;go_wp2_with fail
  refine(NC.out _).mono ?_
  rintro e w2 ⟨rfl,hb2⟩;have c2:=keep_cell hb2 c0;have HB2:=hid (below_trans HB1.out hb2);clear hb2;go_wp2;go_ret;exact⟨⟨_,rfl,by rw[HOL.out];rfl⟩,HB2.out⟩
 |false=>
  rw[hn]at NC;have HOL:Hid (O=none):=hid (by rw[HO.out,a5h,hn];rfl);clear hn;go_enter Tryz.func54,Tryz.ntmps54;go_wp2_with fail
  refine HS.out.mono ?_;rintro e w1 ⟨rfl,hr1,hb1⟩;have c0:w1.cell? ⟨w.heap.size,1,none⟩=some (.string r0):=hr1 0 (by simp);have HR1:=hid hr1;have HB1:=hid hb1;clear hr1 hb1;go_wp2_with fail
  refine(NC.out _).mono ?_
  rintro e w2 ⟨rfl,hb2⟩;have HB2:=hid (below_trans HB1.out hb2);clear hb2;go_wp2;go_ret;exact⟨⟨_,rfl,by rw[HOL.out];rfl⟩,HB2.out⟩
theorem aaJ{r0 s:ByteArray}{rs:List ByteArray}:a0B putW r0 rs s=if a01 r0&& !(a0i rs).data.toList.isEmpty&&a0g s then some (.put r0 (a0i rs))else none:=rfl
theorem aak(s:ByteArray)(hs:s.size<=1000000)(w:World)(hV:Vars w){r0:ByteArray}(h:splitA 32 s=[putW,r0]):
  Calls Tryz.prog 54 #[.string s] w (a0L w (a02 s)):=by
 have HS:=hid (a1e s hs w hV h 1 rfl);have HL:=hid (a0Q hs h);have HSZ:=hid (a1y hs h);have HV:=hid hV;obtain⟨O,hO0⟩:∃O,O=a02 s:=⟨_,rfl⟩
 have HO:=hid (hO0.trans (a0E h));have HH:=hid h;rw[<-hO0];clear hO0 hV h;have NC:=hid (fun W=>a2x r0 W);have HOL:Hid (O=none):=hid (by rw[HO.out,aaJ];simp[a0i,bsB,Lib.join_nil]);unfold putW at HS;obtain⟨q,hq⟩:∃q,q=a01 r0:=⟨_,rfl⟩
 rw[<-hq]at NC;clear hq;cases q with
 |true=>
  go_enter Tryz.func54,Tryz.ntmps54;go_wp2_with fail
  refine HS.out.mono ?_;rintro e w1 ⟨rfl,hr1,hb1⟩;have c0:w1.cell? ⟨w.heap.size,1,none⟩=some (.string r0):=hr1 0 (by simp);have HR1:=hid hr1;have HB1:=hid hb1;clear hr1 hb1;go_wp2_with fail
  refine(Tryz.strings_Join_none _ _ _ _).mono ?_
  rintro e w2 ⟨rfl,hw2⟩;obtain rfl:w2=w1:=hw2;go_wp2_with fail
  refine(NC.out _).mono ?_
  rintro e w3 ⟨rfl,hb2⟩;have HB2:=hid (below_trans HB1.out hb2);clear hb2;go_wp2;go_ret;exact⟨⟨_,rfl,by rw[HOL.out];rfl⟩,HB2.out⟩
 |false=>
  go_enter Tryz.func54,Tryz.ntmps54;go_wp2_with fail
  refine HS.out.mono ?_;rintro e w1 ⟨rfl,hr1,hb1⟩;have c0:w1.cell? ⟨w.heap.size,1,none⟩=some (.string r0):=hr1 0 (by simp);have HR1:=hid hr1;have HB1:=hid hb1;clear hr1 hb1;go_wp2_with fail
  refine(Tryz.strings_Join_none _ _ _ _).mono ?_
  rintro e w2 ⟨rfl,hw2⟩;obtain rfl:w2=w1:=hw2;go_wp2_with fail
  refine(NC.out _).mono ?_
  rintro e w3 ⟨rfl,hb2⟩;have HB2:=hid (below_trans HB1.out hb2);clear hb2;go_wp2;go_ret;exact⟨⟨_,rfl,by rw[HOL.out];rfl⟩,HB2.out⟩
theorem afn(b off:Nat)(l:List ByteArray)(w:World)(h:RestAt w b off l)(h0:0<l.length)(hl:l.length<=1000000)(hlen:(a0i l).size<=1000000):
  Calls Tryz.prog 85 #[.slice (some ⟨b,off,none⟩) l.length l.length,.string ⟨#[32]⟩] w fun e w'=>e= .returned (.string (a0i l))/\Below w.heap.size w w':=by
 refine Tryz.strings_Join b off l.length l ⟨#[32]⟩ w (fun j x hx=>?_) (World.block_lt_of_cell? _ _ (h 0 h0)) (by omega) (Nat.le_refl _) ?_
 ·obtain⟨hj,rfl⟩:=List.getElem?_eq_some_iff.1 hx;rw[h j hj,List.getD_eq_getElem?_getD,List.getElem?_eq_getElem hj];rfl
 rw[a03]at hlen;have:(a0i l).data.toList=Lib.join (l.map (·.data.toList)) [32]:=rfl
 rw[this]at hlen;show (Lib.join (l.map (·.data.toList)) [32]).length<=_
 omega
theorem afo{s w0 r0:ByteArray}{rs:List ByteArray}(hs:s.size<=1000000)(h:splitA 32 s=w0::r0::rs)(hr:rs≠[]):(a0i rs).size<=1000000:=by
 have h1:=a2D h (by simp);obtain⟨r1,rs',rfl⟩:∃a b,rs=a::b:=by cases rs with|nil=>exact absurd rfl hr|cons a b=>exact⟨a,b,rfl⟩
 rw[a5c]at h1;have h2:=congrArg List.length h1;simp only[List.length_append,List.length_cons]at h2;rw[a03]at hs⊢;omega
theorem a93(s:ByteArray)(hs:s.size<=1000000)(w:World)(hV:Vars w){r0:ByteArray}{rs:List ByteArray}(h:splitA 32 s=putW::r0::rs)(hr:rs≠[]):
  Calls Tryz.prog 54 #[.string s] w (a0L w (a02 s)):=by
 obtain⟨k,hk⟩:∃k,rs.length=k+1:=⟨rs.length-1,by have:=List.length_pos_iff.2 hr;omega⟩
 have HK:=hid hk;have HJ0:=hid (afo hs h hr);have hL:k+1<=1000000:=by have:=a0Q hs h;omega
 have HS:=hid (a1e s hs w hV h (k+2) (by omega));have HL:=hid (a0Q hs h);have HSZ:=hid (a1y hs h);have HV:=hid hV;obtain⟨O,hO0⟩:∃O,O=a02 s:=⟨_,rfl⟩
 have HO:=hid (hO0.trans (a0E h));have HH:=hid h;rw[<-hO0];clear hO0 hV h;have z1:((k:Int)+2==0)=false:=by simp;omega
 clear hr hk;have NC:=hid (fun W=>a2x r0 W);have LC:=hid (fun W=>a2w s W);have HJ:=hid (fun W (hW:RestAt W w.heap.size 2 rs)=>afn w.heap.size 2 rs W hW (by rw[HK.out];omega) (by rw[HK.out];omega) HJ0.out);rw[HK.out]at HJ;unfold putW at HS;have HOL:Hid (O=if a01 r0&& !(a0i rs).data.toList.isEmpty&&a0g s then some (.put r0 (a0i rs))else none):=hid (by rw[HO.out,aaJ]);clear HO HH;generalize a0i rs=js at *;obtain⟨q,hq⟩:∃q,q=a01 r0:=⟨_,rfl⟩
 rw[<-hq]at NC HOL;clear hq;obtain⟨p,hp⟩:∃q,q=a0g s:=⟨_,rfl⟩
 rw[<-hp]at LC HOL;clear hp;cases q with
 |false=>
  have HOX:Hid (O=none):=hid (by rw[HOL.out];rfl);go_enter Tryz.func54,Tryz.ntmps54;go_wp2_with fail
  refine HS.out.mono ?_;rintro e w1 ⟨rfl,hr1,hb1⟩;have c0:w1.cell? ⟨w.heap.size,1,none⟩=some (.string r0):=hr1 0 (by simp);have HR1:=hid hr1;have HB1:=hid hb1;clear hr1 hb1;go_wp2_with fail
  refine(HJ.out w1 ((HR1.out.drop 1))).mono ?_
  rintro e w2 ⟨rfl,hb2⟩;have c2:=keep_cell hb2 c0;have HB2:=hid (below_trans HB1.out hb2);clear hb2;go_wp2_with fail
  refine(NC.out _).mono ?_
  rintro e w3 ⟨rfl,hb3⟩;have c3:=keep_cell hb3 c2;have HB3:=hid (below_trans HB2.out hb3);clear hb3;go_wp2;go_ret;exact⟨⟨_,rfl,by rw[HOX.out];rfl⟩,HB3.out⟩
 | true=>
  by_cases he:js.toList=[]
  ·have HOX:Hid (O=none):=hid (by rw[HOL.out,<-ba_list,he];rfl);have he2:js.toList.isEmpty=true:=by rw[he];rfl
   go_enter Tryz.func54,Tryz.ntmps54;go_wp2_with fail
   refine HS.out.mono ?_;rintro e w1 ⟨rfl,hr1,hb1⟩;have c0:w1.cell? ⟨w.heap.size,1,none⟩=some (.string r0):=hr1 0 (by simp);have HR1:=hid hr1;have HB1:=hid hb1;clear hr1 hb1;go_wp2_with fail
   refine(HJ.out w1 ((HR1.out.drop 1))).mono ?_
   rintro e w2 ⟨rfl,hb2⟩;have c2:=keep_cell hb2 c0;have HB2:=hid (below_trans HB1.out hb2);clear hb2;go_wp2_with fail
   refine(NC.out _).mono ?_
   rintro e w3 ⟨rfl,hb3⟩;have c3:=keep_cell hb3 c2;have HB3:=hid (below_trans HB2.out hb3);clear hb3;go_wp2;go_ret;exact⟨⟨_,rfl,by rw[HOX.out];rfl⟩,HB3.out⟩
  have he2:js.toList.isEmpty=false:=by simpa using he
  have he3:(!js.toList.isEmpty)=true:=by rw[he2];rfl
  have HE3:=hid he2;cases p with
  |false=>
   have HOX:Hid (O=none):=hid (by rw[HOL.out];simp);go_enter Tryz.func54,Tryz.ntmps54;go_wp2_with fail
   refine HS.out.mono ?_;rintro e w1 ⟨rfl,hr1,hb1⟩;have c0:w1.cell? ⟨w.heap.size,1,none⟩=some (.string r0):=hr1 0 (by simp);have HR1:=hid hr1;have HB1:=hid hb1;clear hr1 hb1;go_wp2_with fail
   refine(HJ.out w1 ((HR1.out.drop 1))).mono ?_
   rintro e w2 ⟨rfl,hb2⟩;have c2:=keep_cell hb2 c0;have HB2:=hid (below_trans HB1.out hb2);clear hb2;go_wp2_with fail
   refine(NC.out _).mono ?_
   rintro e w3 ⟨rfl,hb3⟩;have c3:=keep_cell hb3 c2;have HB3:=hid (below_trans HB2.out hb3);clear hb3;go_wp2_with fail
   refine(LC.out _).mono ?_
   rintro e w4 ⟨rfl,hb4⟩;have HB4:=hid (below_trans HB3.out hb4);clear hb4;go_wp2;go_ret;exact⟨⟨_,rfl,by rw[HOX.out];rfl⟩,HB4.out⟩
  |true=>
   have HOX:Hid (O=some (.put r0 js)):=hid (by rw[HOL.out,<-ba_list,HE3.out];rfl);go_enter Tryz.func54,Tryz.ntmps54;go_wp2_with fail
   refine HS.out.mono ?_;rintro e w1 ⟨rfl,hr1,hb1⟩;have c0:w1.cell? ⟨w.heap.size,1,none⟩=some (.string r0):=hr1 0 (by simp);have HR1:=hid hr1;have HB1:=hid hb1;clear hr1 hb1;go_wp2_with fail
   refine(HJ.out w1 ((HR1.out.drop 1))).mono ?_
   rintro e w2 ⟨rfl,hb2⟩;have c2:=keep_cell hb2 c0;have HB2:=hid (below_trans HB1.out hb2);clear hb2;go_wp2_with fail
   refine(NC.out _).mono ?_
   rintro e w3 ⟨rfl,hb3⟩;have c3:=keep_cell hb3 c2;have HB3:=hid (below_trans HB2.out hb3);clear hb3;go_wp2_with fail
   refine(LC.out _).mono ?_
   rintro e w4 ⟨rfl,hb4⟩;have c4:=keep_cell hb4 c3;have HB4:=hid (below_trans HB3.out hb4);clear hb4;go_wp2;go_ret;exact⟨⟨_,rfl,by rw[HOX.out];rfl⟩,HB4.out⟩
def addO(r0:ByteArray)(o:Option (List Int)):Option Cmd:=match o with
 |some [n]=>if a01 r0 then some (.add r0 n)else none
 |_=>none
theorem aaK{r0 s:ByteArray}{rs:List ByteArray}:a0B addW r0 rs s=addO r0 (allS numV rs):=rfl
theorem aal(s:ByteArray)(hs:s.size<=1000000)(w:World)(hV:Vars w){r0:ByteArray}(h:splitA 32 s=[addW,r0]):
  Calls Tryz.prog 54 #[.string s] w (a0L w (a02 s)):=by
 have HS:=hid (a1e s hs w hV h 1 rfl);have HL:=hid (a0Q hs h);have HSZ:=hid (a1y hs h);have HV:=hid hV;obtain⟨O,hO0⟩:∃O,O=a02 s:=⟨_,rfl⟩
 have HO:=hid (hO0.trans (a0E h));have HH:=hid h;rw[<-hO0];clear hO0 hV h;have HOL:Hid (O=none):=hid (by rw[HO.out,aaK];rfl);unfold addW at HS;go_enter Tryz.func54,Tryz.ntmps54;go_wp2_with fail
 refine HS.out.mono ?_;rintro e w1 ⟨rfl,hr1,hb1⟩;have c0:w1.cell? ⟨w.heap.size,1,none⟩=some (.string r0):=hr1 0 (by simp);have HR1:=hid hr1;have HB1:=hid hb1;clear hr1 hb1;go_wp2_with fail
 refine(a1K (.slice (some ⟨w.heap.size,1,none⟩) 0 0) [] (by simp) (by simp) w1 (a2z _ _ 0 (by omega)) (HV.out.below HB1.out)).mono ?_
 rintro e w2 ⟨⟨v,rfl,ho⟩,hb2⟩;obtain⟨va,vc,rfl⟩:=own_shape ho;have HB2:=hid (below_trans HB1.out hb2);clear ho hb2;go_wp2;go_ret;exact⟨⟨_,rfl,by rw[HOL.out];rfl⟩,HB2.out⟩
theorem a5i{w:World}{v:Value}{n:Int}(h:IntsAt w v [n]):∃b off cap,v= .slice (some ⟨b,off,none⟩) 1 cap/\w.cell? ⟨b,off,none⟩=some (.int .i64 n):=by
 obtain⟨a,cap,rfl,_,hq⟩:=h;obtain⟨b,off,rfl,hc⟩:=hq (by simp);exact⟨b,off,cap,rfl,hc 0 (by simp)⟩
theorem a94(s:ByteArray)(hs:s.size<=1000000)(w:World)(hV:Vars w){r0:ByteArray}{rs:List ByteArray}(h:splitA 32 s=addW::r0::rs)(hr:rs≠[]):
  Calls Tryz.prog 54 #[.string s] w (a0L w (a02 s)):=by
 obtain⟨k,hk⟩:∃k,rs.length=k+1:=⟨rs.length-1,by have:=List.length_pos_iff.2 hr;omega⟩
 have HK:=hid hk;have hL:k+1<=1000000:=by have:=a0Q hs h;omega
 have HS:=hid (a1e s hs w hV h (k+2) (by omega));have HL:=hid (a0Q hs h);have HSZ:=hid (a1y hs h);have HV:=hid hV;obtain⟨O,hO0⟩:∃O,O=a02 s:=⟨_,rfl⟩
 have HO:=hid (hO0.trans (a0E h));have HH:=hid h;rw[<-hO0];clear hO0 hV h;have z1:((k:Int)+2==0)=false:=by simp;omega
 clear hr hk;have NC:=hid (fun W=>a2x r0 W);have HN:=hid (fun W (hW:RestAt W w.heap.size 1 (r0::rs)) (hb:Below w.heap.size w W)=>a1K _ rs (by rw[HK.out];omega) (fun x hx=>HSZ.out x (by simp[hx])) W ((hW.drop 1).strs (by show rs.length<=_;rw[HK.out];omega)) (HV.out.below hb));have hd1:((r0::rs).drop 1).length=k+1:=HK.out
 rw[hd1]at HN;clear hd1;unfold addW at HS;have HOL:Hid (O=addO r0 (allS numV rs)):=hid (by rw[HO.out,aaK]);clear HO HH;cases hx:allS numV rs with
 |none=>
  rw[hx]at HOL HN;clear hx;go_enter Tryz.func54,Tryz.ntmps54;go_wp2_with fail
  refine HS.out.mono ?_;rintro e w1 ⟨rfl,hr1,hb1⟩;have c0:w1.cell? ⟨w.heap.size,1,none⟩=some (.string r0):=hr1 0 (by simp);have HR1:=hid hr1;have HB1:=hid hb1;clear hr1 hb1;go_wp2_with fail
  refine(HN.out w1 HR1.out HB1.out).mono ?_
  rintro e w2 ⟨rfl,hb2⟩;have HB2:=hid (below_trans HB1.out hb2);clear hb2;go_wp2;go_ret;exact⟨⟨_,rfl,by rw[HOL.out];rfl⟩,HB2.out⟩
 | some ns=>
  rw[hx]at HOL HN;have hnl:=allS_len _ _ _ hx;rw[HK.out]at hnl;clear hx;by_cases h1:k=0
  ·subst h1
   obtain⟨n,rfl⟩:∃n,ns=[n]:=by
    match ns,hnl with
    |[n],_=>exact⟨n,rfl⟩
   obtain⟨q,hq⟩:∃q,q=a01 r0:=⟨_,rfl⟩
   have HOX:Hid (O=if q then some (.add r0 n)else none):=hid (by rw[HOL.out,hq];rfl);rw[<-hq]at NC;clear hq hnl HOL;cases q with
   |true=>
    go_enter Tryz.func54,Tryz.ntmps54;go_wp2_with fail
    refine HS.out.mono ?_;rintro e w1 ⟨rfl,hr1,hb1⟩;have c0:w1.cell? ⟨w.heap.size,1,none⟩=some (.string r0):=hr1 0 (by simp);have HR1:=hid hr1;have HB1:=hid hb1;clear hr1 hb1;go_wp2_with fail
    refine(HN.out w1 HR1.out HB1.out).mono ?_
    rintro e w2 ⟨⟨v,rfl,ho⟩,hb2⟩;obtain⟨vb,vo,vc,rfl,hvc⟩:=a5i (a1S ho (by simp));have c2:=keep_cell hb2 c0;have HB2:=hid (below_trans HB1.out hb2);clear ho hb2;go_wp2_with fail
    refine(NC.out _).mono ?_
    rintro e w3 ⟨rfl,hb3⟩;have c3:=keep_cell hb3 c2;have d3:=keep_cell hb3 hvc;have HB3:=hid (below_trans HB2.out hb3);clear hb3;go_wp2;go_quiet (fail)
    all_goals go_wp2
    go_ret;exact⟨⟨_,rfl,by rw[HOX.out];rfl⟩,a3v HB3.out _⟩
   |false=>
    go_enter Tryz.func54,Tryz.ntmps54;go_wp2_with fail
    refine HS.out.mono ?_;rintro e w1 ⟨rfl,hr1,hb1⟩;have c0:w1.cell? ⟨w.heap.size,1,none⟩=some (.string r0):=hr1 0 (by simp);have HR1:=hid hr1;have HB1:=hid hb1;clear hr1 hb1;go_wp2_with fail
    refine(HN.out w1 HR1.out HB1.out).mono ?_
    rintro e w2 ⟨⟨v,rfl,ho⟩,hb2⟩;obtain⟨vb,vo,vc,rfl,hvc⟩:=a5i (a1S ho (by simp));have c2:=keep_cell hb2 c0;have HB2:=hid (below_trans HB1.out hb2);clear ho hb2;go_wp2_with fail
    refine(NC.out _).mono ?_
    rintro e w3 ⟨rfl,hb3⟩;have HB3:=hid (below_trans HB2.out hb3);clear hb3;go_wp2;go_ret;exact⟨⟨_,rfl,by rw[HOX.out];rfl⟩,HB3.out⟩
  have z2:((k:Int)+1==1)=false:=by simp;omega
  have HOX:Hid (O=none):=hid (by
   rw[HOL.out];match ns,hnl with
   |[],_=>rfl
   |[n],hnl=>exact absurd (by simpa using hnl.symm) h1
   |n::m::r,_=>rfl)
  have HNL:=hid hnl;clear h1 hnl HOL;go_enter Tryz.func54,Tryz.ntmps54;go_wp2_with fail
  refine HS.out.mono ?_;rintro e w1 ⟨rfl,hr1,hb1⟩;have c0:w1.cell? ⟨w.heap.size,1,none⟩=some (.string r0):=hr1 0 (by simp);have HR1:=hid hr1;have HB1:=hid hb1;clear hr1 hb1;go_wp2_with fail
  refine(HN.out w1 HR1.out HB1.out).mono ?_
  rintro e w2 ⟨⟨v,rfl,ho⟩,hb2⟩;obtain⟨va,vc,rfl⟩:=own_shape ho;rw[HNL.out]at *;have HB2:=hid (below_trans HB1.out hb2);clear ho hb2;go_wp2;go_ret;exact⟨⟨_,rfl,by rw[HOX.out];rfl⟩,HB2.out⟩
def aaL(o:Option Int)(all:Bool)(n:Nat)(rs:List ByteArray):Option Cmd:=match o with
 |some x=>if all&&betw 1 n 8 then some (.share x rs)else none
 |none=>none
theorem a7R{r0 s:ByteArray}{rs:List ByteArray}:a0B shareW r0 rs s=aaL (numV r0) (rs.all a01) rs.length rs:=rfl
def aho(w:World)(o:Option Int)(e:Ending)(w':World):Prop:=
 (match o with
  |some n=>∃b off cap,e= .returned (.tuple #[.slice (some ⟨b,off,none⟩) 1 cap,.bool true])/\w'.cell? ⟨b,off,none⟩=some (.int .i64 n)
  |none=>e= .returned (.tuple #[.slice none 0 0,.bool false]))/\Below w.heap.size w w'
theorem a6Y(x:ByteArray)(hx:x.size<=281474976710656)(v:Value)(w:World)(hv:StrsAt w v [x])(hV:Vars w):Calls Tryz.prog 88 #[v] w (aho w (numV x)):=by
 have h:=a1K v [x] (by simp) (by simpa using hx) w hv hV;refine h.mono ?_;rintro e w' ⟨h1,hb⟩;refine⟨?_,hb⟩;cases hn:numV x with
 |none=>simpa [allS,hn]using h1
 |some n=>
  simp only[allS,hn]at h1;obtain⟨v',rfl,ho⟩:=h1;obtain⟨b,off,cap,rfl,hc⟩:=a5i (a1S ho (by simp));exact⟨b,off,cap,rfl,hc⟩
theorem a7S(s:ByteArray)(hs:s.size<=1000000)(w:World)(hV:Vars w){r0:ByteArray}(h:splitA 32 s=[shareW,r0]):
  Calls Tryz.prog 54 #[.string s] w (a0L w (a02 s)):=by
 have HS:=hid (a1e s hs w hV h 1 rfl);have HL:=hid (a0Q hs h);have HSZ:=hid (a1y hs h);have HV:=hid hV;obtain⟨O,hO0⟩:∃O,O=a02 s:=⟨_,rfl⟩
 have HO:=hid (hO0.trans (a0E h));have HH:=hid h;rw[<-hO0];clear hO0 hV h;have HN:=hid (fun W (hW:RestAt W w.heap.size 1 [r0]) (hb:Below w.heap.size w W)=>a6Y r0 (HSZ.out r0 (by simp)) _ W (hW.strs (by simp)) (HV.out.below hb));rw[show ([r0]:List ByteArray).length=1 from rfl]at HN;have HM:=hid (fun W=>a2V (.slice (some ⟨w.heap.size,1,none⟩) 0 0) [] W (a2z _ _ 0 (by omega)));rw[show ([]:List ByteArray).all a01=true from rfl]at HM;unfold a2e at HM;have hbt:betw 1 0 8=false:=by decide
 have HBT:=hid hbt;have HOL:Hid (O=none):=hid (by rw[HO.out,a7R];unfold aaL;cases numV r0 with|none=>rfl|some x=>rw[show (([]:List ByteArray).length:Int)=0 from rfl,HBT.out];simp);unfold shareW at HS;clear HO HH hbt;cases hx:numV r0 with
 |none=>
  rw[hx]at HN;clear hx;go_enter Tryz.func54,Tryz.ntmps54;go_wp2_with fail
  refine HS.out.mono ?_;rintro e w1 ⟨rfl,hr1,hb1⟩;have c0:w1.cell? ⟨w.heap.size,1,none⟩=some (.string r0):=hr1 0 (by simp);have HR1:=hid hr1;have HB1:=hid hb1;clear hr1 hb1;go_wp2_with fail
  refine(HN.out w1 HR1.out HB1.out).mono ?_
  rintro e w2 ⟨rfl,hb2⟩;have HB2:=hid (below_trans HB1.out hb2);clear hb2;go_wp2_with fail
  refine(HM.out _).mono ?_
  rintro e w3 ⟨rfl,hb3⟩;have HB3:=hid (below_trans HB2.out hb3);clear hb3;go_wp2;go_ret;exact⟨⟨_,rfl,by rw[HOL.out];rfl⟩,HB3.out⟩
 |some n=>
  rw[hx]at HN;clear hx;go_enter Tryz.func54,Tryz.ntmps54;go_wp2_with fail
  refine HS.out.mono ?_;rintro e w1 ⟨rfl,hr1,hb1⟩;have c0:w1.cell? ⟨w.heap.size,1,none⟩=some (.string r0):=hr1 0 (by simp);have HR1:=hid hr1;have HB1:=hid hb1;clear hr1 hb1;go_wp2_with fail
  refine(HN.out w1 HR1.out HB1.out).mono ?_
  rintro e w2 ⟨⟨b,off,cap,rfl,hc⟩,hb2⟩;have HB2:=hid (below_trans HB1.out hb2);clear hb2;go_wp2_with fail
  refine(HM.out _).mono ?_
  rintro e w3 ⟨rfl,hb3⟩;have HB3:=hid (below_trans HB2.out hb3);clear hb3;go_wp2_with fail
  refine(between_any _ _ _ _).mono ?_
  rintro e w4 ⟨rfl,rfl⟩;rw[HBT.out];go_wp2;go_ret;exact⟨⟨_,rfl,by rw[HOL.out];rfl⟩,HB3.out⟩
theorem a7n(s:ByteArray)(hs:s.size<=1000000)(w:World)(hV:Vars w){r0:ByteArray}{rs:List ByteArray}(h:splitA 32 s=shareW::r0::rs)(hr:rs≠[]):
  Calls Tryz.prog 54 #[.string s] w (a0L w (a02 s)):=by
 obtain⟨k,hk⟩:∃k,rs.length=k+1:=⟨rs.length-1,by have:=List.length_pos_iff.2 hr;omega⟩
 have HK:=hid hk;have hL:k+1<=1000000:=by have:=a0Q hs h;omega
 have HS:=hid (a1e s hs w hV h (k+2) (by omega));have HL:=hid (a0Q hs h);have HSZ:=hid (a1y hs h);have HV:=hid hV;obtain⟨O,hO0⟩:∃O,O=a02 s:=⟨_,rfl⟩
 have HO:=hid (hO0.trans (a0E h));have HH:=hid h;rw[<-hO0];clear hO0 hV h;have z1:((k:Int)+2==0)=false:=by simp;omega
 clear hr hk;have HN:=hid (fun W (hW:RestAt W w.heap.size 1 (r0::rs)) (hb:Below w.heap.size w W)=>a6Y r0 (HSZ.out r0 (by simp)) _ W (hW.take 1 (by simp) (by rw[List.length_cons,HK.out];omega)) (HV.out.below hb));rw[show (r0::rs).length=k+2 by rw[List.length_cons,HK.out]]at HN;have HM:=hid (fun W (hW:RestAt W w.heap.size 1 (r0::rs))=>a2V _ rs W ((hW.drop 1).strs (by show rs.length<=_;rw[HK.out];omega)));have hd1:((r0::rs).drop 1).length=k+1:=HK.out
 rw[hd1]at HM;clear hd1;unfold shareW at HS;have HOL:Hid (O=aaL (numV r0) (rs.all a01) (k+1) rs):=hid (by rw[HO.out,a7R,HK.out]);clear HO HH;obtain⟨q,hq⟩:∃q,q=rs.all a01:=⟨_,rfl⟩
 rw[<-hq]at HOL HM;clear hq;cases hx:numV r0 with
 | none=>
  rw[hx]at HOL HN;clear hx;cases q with
  |true=>
   unfold a2e at HM;go_enter Tryz.func54,Tryz.ntmps54;go_wp2_with fail
   refine HS.out.mono ?_;rintro e w1 ⟨rfl,hr1,hb1⟩;have c0:w1.cell? ⟨w.heap.size,1,none⟩=some (.string r0):=hr1 0 (by simp);have HR1:=hid hr1;have HB1:=hid hb1;clear hr1 hb1;go_wp2_with fail
   refine(HN.out w1 HR1.out HB1.out).mono ?_
   rintro e w2 ⟨rfl,hb2⟩;have HR2:=hid (HR1.out.below hb2);have HB2:=hid (below_trans HB1.out hb2);clear hb2;go_wp2_with fail
   refine(HM.out _ HR2.out).mono ?_
   rintro e w3 ⟨rfl,hb3⟩;have HB3:=hid (below_trans HB2.out hb3);clear hb3;go_wp2;go_ret;exact⟨⟨_,rfl,by rw[HOL.out];rfl⟩,HB3.out⟩
  |false=>
   unfold a2e at HM;go_enter Tryz.func54,Tryz.ntmps54;go_wp2_with fail
   refine HS.out.mono ?_;rintro e w1 ⟨rfl,hr1,hb1⟩;have c0:w1.cell? ⟨w.heap.size,1,none⟩=some (.string r0):=hr1 0 (by simp);have HR1:=hid hr1;have HB1:=hid hb1;clear hr1 hb1;go_wp2_with fail
   refine(HN.out w1 HR1.out HB1.out).mono ?_
   rintro e w2 ⟨rfl,hb2⟩;have HR2:=hid (HR1.out.below hb2);have HB2:=hid (below_trans HB1.out hb2);clear hb2;go_wp2_with fail
   refine(HM.out _ HR2.out).mono ?_
   rintro e w3 ⟨rfl,hb3⟩;have HB3:=hid (below_trans HB2.out hb3);clear hb3;go_wp2;go_ret;exact⟨⟨_,rfl,by rw[HOL.out];rfl⟩,HB3.out⟩
 | some n=>
  rw[hx]at HOL HN;clear hx;cases q with
  |false=>
   unfold a2e at HM;go_enter Tryz.func54,Tryz.ntmps54;go_wp2_with fail
   refine HS.out.mono ?_;rintro e w1 ⟨rfl,hr1,hb1⟩;have c0:w1.cell? ⟨w.heap.size,1,none⟩=some (.string r0):=hr1 0 (by simp);have HR1:=hid hr1;have HB1:=hid hb1;clear hr1 hb1;go_wp2_with fail
   refine(HN.out w1 HR1.out HB1.out).mono ?_
   rintro e w2 ⟨⟨b,off,cap,rfl,hc⟩,hb2⟩;have HR2:=hid (HR1.out.below hb2);have HB2:=hid (below_trans HB1.out hb2);clear hb2;go_wp2_with fail
   refine(HM.out _ HR2.out).mono ?_
   rintro e w3 ⟨rfl,hb3⟩;have HB3:=hid (below_trans HB2.out hb3);clear hb3;go_wp2;go_ret;exact⟨⟨_,rfl,by rw[HOL.out];rfl⟩,HB3.out⟩
  | true=>
   unfold a2e at HM;obtain⟨p,hp⟩:∃p,p=betw 1 ((k:Int)+1) 8:=⟨_,rfl⟩
   have HP:=hid hp;clear hp;have HOX:Hid (O=if p then some (.share n rs)else none):=hid (by rw[HOL.out,HP.out];rfl);cases p with
   |false=>
    go_enter Tryz.func54,Tryz.ntmps54;go_wp2_with fail
    refine HS.out.mono ?_;rintro e w1 ⟨rfl,hr1,hb1⟩;have c0:w1.cell? ⟨w.heap.size,1,none⟩=some (.string r0):=hr1 0 (by simp);have HR1:=hid hr1;have HB1:=hid hb1;clear hr1 hb1;go_wp2_with fail
    refine(HN.out w1 HR1.out HB1.out).mono ?_
    rintro e w2 ⟨⟨b,off,cap,rfl,hc⟩,hb2⟩;have HR2:=hid (HR1.out.below hb2);have HB2:=hid (below_trans HB1.out hb2);clear hb2;go_wp2_with fail
    refine(HM.out _ HR2.out).mono ?_
    rintro e w3 ⟨rfl,hb3⟩;have HB3:=hid (below_trans HB2.out hb3);clear hb3;go_wp2_with fail
    refine(between_any _ _ _ _).mono ?_
    rintro e w4 ⟨rfl,rfl⟩;rw[<-HP.out];go_wp2;go_ret;exact⟨⟨_,rfl,by rw[HOX.out];rfl⟩,HB3.out⟩
   |true=>
    go_enter Tryz.func54,Tryz.ntmps54;go_wp2_with fail
    refine HS.out.mono ?_;rintro e w1 ⟨rfl,hr1,hb1⟩;have c0:w1.cell? ⟨w.heap.size,1,none⟩=some (.string r0):=hr1 0 (by simp);have HR1:=hid hr1;have HB1:=hid hb1;clear hr1 hb1;go_wp2_with fail
    refine(HN.out w1 HR1.out HB1.out).mono ?_
    rintro e w2 ⟨⟨b,off,cap,rfl,hc⟩,hb2⟩;have HR2:=hid (HR1.out.below hb2);have HB2:=hid (below_trans HB1.out hb2);clear hb2;go_wp2_with fail
    refine(HM.out _ HR2.out).mono ?_
    rintro e w3 ⟨rfl,hb3⟩;have HR3:=hid (HR2.out.below hb3);have d3:=keep_cell hb3 hc;have HB3:=hid (below_trans HB2.out hb3);clear hb3;go_wp2_with fail
    refine(between_any _ _ _ _).mono ?_
    rintro e w4 ⟨rfl,rfl⟩;rw[<-HP.out];go_wp2;go_ret;refine⟨⟨_,rfl,?_⟩,HB3.out⟩;rw[HOX.out];refine⟨_,rfl,?_⟩;have h9:=(HR3.out.drop 1).strs (by show rs.length<=_;rw[HK.out];omega)
    have hd1:((r0::rs).drop 1).length=k+1:=HK.out
    rw[hd1]at h9;exact h9
theorem a1f(s:ByteArray)(hs:s.size<=1000000)(w:World)(hV:Vars w):Calls Tryz.prog 54 #[.string s] w (a0L w (a02 s)):=by
 cases h:splitA 32 s with
 |nil=>exact absurd h (a9o _ _)
 | cons w0 rest=>
  cases rest with
  |nil=>exact afm s hs w hV h
  | cons r0 rs=>
   by_cases n1:w0=putW
   ·subst n1;by_cases hr:rs=[]
    ·subst hr;exact aak s hs w hV h
    exact a93 s hs w hV h hr
   by_cases n2:w0=dropW
   ·subst n2;by_cases hr:rs=[]
    ·subst hr;exact a92 s hs w hV h
    exact a7P s hs w hV h hr
   by_cases n3:w0=stockW
   ·subst n3;by_cases hr:rs=[]
    ·subst hr;exact a7Q s hs w hV h
    exact a7m s hs w hV h hr
   by_cases n4:w0=addW
   ·subst n4;by_cases hr:rs=[]
    ·subst hr;exact aal s hs w hV h
    exact a94 s hs w hV h hr
   by_cases n5:w0=shareW
   ·subst n5;by_cases hr:rs=[]
    ·subst hr;exact a7S s hs w hV h
    exact a7n s hs w hV h hr
   exact acf s hs w hV h n1 n2 n3 n4 n5
end Go.Proofs.YtdfkaijeppdhaaaGreatDoor
