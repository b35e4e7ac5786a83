/- Part of the proof. -/
import Derived.Test.YtdfkaijeppdhaaaGreatDoorZHs00
import Derived.Deep.RegionHeld
import Derived.WalkSpells
import Derived.WalkLawsBesides
import Derived.Lib.Hide
import Derived.Lib.Split
import Derived.Lib.AtoiAll
import Derived.Lib.ItoaNum
import Derived.Lib.Join

set_option maxRecDepth 100000
set_option maxHeartbeats 8000000
set_option linter.unusedSimpArgs false
set_option linter.unusedVariables false

namespace Go.Proofs.YtdfkaijeppdhaaaGreatDoor
open Go
theorem exq{α:Type}{p q:α->Prop}(v:α)(h1:p v)(h2:q v):∃v,p v/\q v:=⟨v,h1,h2⟩
theorem gS:(∀(a:Act) (t:Tmp) (v:Value),a.put (some t) v={a with tmps:=a.tmps.setIfInBounds t v})/\(∀(a:Act) (v:Value),a.put none v=a)/\(∀{α:Type} {l:List α} {i:Nat} (h:i<l.toArray.size),l.toArray[i]=l[i]'(by simpa using h))/\(∀{α:Type} {a:α} {l:List α} {h:0<(a::l).length},(a::l)[0]=a)/\
  (∀{α:Type} {a:α} {l:List α} {i:Nat} {h:i+1<(a::l).length},(a::l)[i+1]=l[i]'(by simpa using h))/\(∀{α:Type} {l:List α} {i:Nat} {a:α},l.toArray.setIfInBounds i a=(l.set i a).toArray)/\
  (∀{α:Type} {a b:α} {l:List α},(a::l).set 0 b=b::l)/\∀{α:Type} {a b:α} {l:List α} {n:Nat},(a::l).set (n+1) b=a::l.set n b:=
 ⟨fun _ _ _=>rfl,fun _ _=>rfl,fun h=>apB h,rfl,rfl,aoF ..,rfl,rfl⟩
def TK(_:List Nat)(p:Prop):Prop:=p
theorem tk(is:List Nat){p:Prop}(h:TK is p):p:=h
theorem tkE{p:Prop}(h:p):TK [] p:=h
section
variable{P:Program}{ops:Array Oper}{Q:Exit->Act->World->Prop}{md:Region.Mode}{S:World->Prop}{is:List Nat}{oi:Oper}{fuel:Nat}{listed:Array Bool}{a:Act}{w:World}
theorem tkC{i:Nat}(hS:S w)(hi:ops[i]? =some oi:=by rfl)
  (hs:Region.noSelect ops=true:=by kernel_rfl)(hf:Region.free md ops listed i=true:=by kernel_rfl)(hr:(Region.ready md ops listed).contains i=true:=by kernel_rfl)
  (hQ:∀v c a w,Q (.panic c) (a.put oi.dst v) w->Q (.panic c) a w:=by first|exact fun _ _ _ _ h=>h|exact fun _ _ _ _ h=>nomatch h.1)(hw:Region.wanted oi (yielded ops a.tmps)=true:=by rfl)
  (h:∃v,(∀W,S W->(execOp a.eval oi).run P W= .ok (.value v) W)/\TK is (wpAnyH P md ops Q S fuel (listed.setIfInBounds i true) (a.put oi.dst v) w)):TK (i::is) (wpAnyH P md ops Q S (fuel+1) listed a w):=by
 obtain⟨v,h1,h2⟩:=h;exact wpAnyH_take hi hs hf hr (hQ v) (Or.inl ⟨hw,h1⟩) hS h2
theorem tkV(i:Nat)(v:Value)(hS:S w)(hi:ops[i]? =some oi:=by rfl)
  (hs:Region.noSelect ops=true:=by kernel_rfl)(hf:Region.free md ops listed i=true:=by kernel_rfl)(hr:(Region.ready md ops listed).contains i=true:=by kernel_rfl)
  (hQ:∀v c a w,Q (.panic c) (a.put oi.dst v) w->Q (.panic c) a w:=by first|exact fun _ _ _ _ h=>h|exact fun _ _ _ _ h=>nomatch h.1)(hw:Region.wanted oi (yielded ops a.tmps)=true:=by rfl)
  (h1:∀W,S W->(execOp a.eval oi).run P W= .ok (.value v) W)(h:wpAnyH P md ops Q S fuel (listed.setIfInBounds i true) (a.put oi.dst v) w):wpAnyH P md ops Q S (fuel+1) listed a w:=
 wpAnyH_take hi hs hf hr (hQ v) (Or.inl ⟨hw,h1⟩) hS h
theorem tkS{i:Nat}(hS:S w)(hi:ops[i]? =some oi:=by rfl)
  (hs:Region.noSelect ops=true:=by kernel_rfl)(hf:Region.free md ops listed i=true:=by kernel_rfl)(hr:(Region.ready md ops listed).contains i=true:=by kernel_rfl)
  (hQ:∀v c a w,Q (.panic c) (a.put oi.dst v) w->Q (.panic c) a w:=by first|exact fun _ _ _ _ h=>h|exact fun _ _ _ _ h=>nomatch h.1)(hw:Region.wanted oi (yielded ops a.tmps)=false:=by rfl)
  (h:TK is (wpAnyH P md ops Q S fuel (listed.setIfInBounds i true) (a.put oi.dst undef) w)):TK (i::is) (wpAnyH P md ops Q S (fuel+1) listed a w):=
 wpAnyH_take hi hs hf hr (hQ undef) (Or.inr ⟨hw,rfl⟩) hS h
theorem rdy(i:Nat)(hr:Region.ready md ops listed=[i]:=by kernel_rfl)(hi:ops[i]? =some oi:=by rfl)
  (h:∀K':Act->World->Prop,Shut (∀a w,S w->(S w->wpAnyH P md ops Q S fuel (listed.setIfInBounds i true) a w)->K' a w)->if Region.wanted oi (yielded ops a.tmps)=true then Oper.wp P oi a w K' Q else K' (a.put oi.dst undef) w):wpAnyH P md ops Q S (fuel+1) listed a w:=
 wpAnyH_ready hr oz (AllReadyH.cons hi h AllReadyH.nil)
end
end Go.Proofs.YtdfkaijeppdhaaaGreatDoor
namespace Go.Proofs.YtdfkaijeppdhaaaGreatDoor
abbrev Ent:=Int×Int×Int×ByteArray
def a07(e:Ent):Int:=e.1
def a0r(e:Ent):Int:=e.2.1
def a0a(e:Ent):Int:=e.2.2.1
def a0b(e:Ent):ByteArray:=e.2.2.2
def eLt(a b:Ent):Prop:=a0a a<a0a b\/(a0a a=a0a b/\a07 a<a07 b)
def eLe(a b:Ent):Prop:=a0a a<a0a b\/(a0a a=a0a b/\a07 a<=a07 b)
instance(a b:Ent):Decidable (eLt a b):=inferInstanceAs (Decidable (_\/_))
instance(a b:Ent):Decidable (eLe a b):=inferInstanceAs (Decidable (_\/_))
def a7I(a b:Ent):Int:=if eLt a b then-1 else if eLt b a then 1 else 0
theorem abW{a b c:Ent}(h:eLt a b)(k:eLt b c):eLt a c:=by unfold eLt at *;omega
theorem agm(a:Ent):¬eLt a a:=by unfold eLt;omega
theorem aic{a b:Ent}(h:eLt a b):¬eLt b a:=by unfold eLt at *;omega
theorem aid(a b:Ent):eLt a b\/eLt b a\/(a0a a=a0a b/\a07 a=a07 b):=by unfold eLt;omega
def a9n(e:Ent):List Ent->List Ent
 |[]=>[e]
 |x::r=>if eLt e x then e::x::r else x::a9n e r
def abo:List Ent->List Ent
 |[]=>[]
 |e::r=>a9n e (abo r)
def Asc(l:List Ent):Prop:=l.Pairwise eLt
theorem a7J(e:Ent):∀l,(a9n e l).Perm (e::l)
 |[]=>.refl _
 |x::r=>by
  unfold a9n;split
  ·exact .refl _
  exact((a7J e r).cons x).trans (.swap _ _ _)
theorem a4a:∀l,(abo l).Perm l
 |[]=>.refl _
 |e::r=>(a7J e _).trans ((a4a r).cons e)
theorem srtE_mem{l:List Ent}{e:Ent}:e∈abo l↔e∈l:=(a4a l).mem_iff
def a6j(l:List Ent):Prop:=l.Pairwise fun a b=>¬(a0a a=a0a b/\a07 a=a07 b)
theorem adh{e:Ent}:∀{l:List Ent},Asc l->(∀x∈l,¬(a0a e=a0a x/\a07 e=a07 x))->Asc (a9n e l)
 |[],_,_=>by simp[a9n,Asc]
 | x::r,h,hk=>by
  unfold a9n;have hx:=apg.1 h;split
  ·rename_i hlt
   exact apg.2 ⟨fun y hy=>by
    rcases aov.1 hy with rfl|hy
    ·exact hlt
    exact abW hlt (hx.1 y hy),h⟩
  rename_i hnlt
  refine apg.2 ⟨fun y hy=>?_,adh hx.2 (fun z hz=>hk z (by simp[hz]))⟩;rcases aov.1 ((a7J e r).mem_iff.1 hy)with rfl|hy
  ·rcases aid y x with h1|h1|h1
   ·exact absurd h1 hnlt
   ·exact h1
   exact absurd h1 (hk x oz)
  exact hx.1 y hy
theorem a9o:∀{l:List Ent},a6j l->Asc (abo l)
 |[],_=>List.Pairwise.nil
 |e::r,h=>by
  have hx:=apg.1 h;exact adh (a9o hx.2) (fun x hx2=>hx.1 x (srtE_mem.1 hx2))
theorem a6N:∀{l m:List Ent},Asc l->Asc m->l.Perm m->l=m
 |[],m,_,_,hp=>(List.nil_perm.1 hp).symm▸rfl
 |a::l,[],_,_,hp=>by simpa using hp.length_eq
 | a::l,b::m,hl,hm,hp=>by
  have h1:=apg.1 hl;have h2:=apg.1 hm
  have hab:a=b:=by
   rcases aov.1 (hp.mem_iff.1 (List.mem_cons_self))with h|h
   ·exact h
   rcases aov.1 (hp.mem_iff.2 (List.mem_cons_self (a:=b)))with k|k
   ·exact k.symm
   exact absurd (h2.1 a h) (aic (h1.1 b k))
  subst hab;rw[a6N h1.2 h2.2 (List.Perm.cons_inv hp)]
theorem a90{l m:List Ent}(hm:Asc m)(hk:a6j l)(hp:m.Perm l):m=abo l:=a6N hm (a9o hk) (hp.trans (a4a l).symm)
abbrev a00:=Nat->List Ent
def a1G:a00:=fun _=>[]
def abp(b:a00)(i:Nat)(l:List Ent):a00:=fun j=>if j=i then l else b j
theorem a3n(b:a00)(i:Nat)(l:List Ent):abp b i l i=l:=by simp[abp]
theorem a2U(b:a00){i j:Nat}(l:List Ent)(h:j≠i):abp b i l j=b j:=by simp[abp,h]
def a3E(s:ByteArray):Bool:=decide (s.size<=60)&&s.data.toList.all fun c=>decide (32<=c.toNat)&&decide (c.toNat<=126)
structure ListOk(i:Nat)(l:List Ent):Prop where
 len:l.length<=60
 own:∀j (h:j<l.length),a07 l[j]=i/\a0r l[j]=j+1/\1<=a0a l[j]/\a0a l[j]<=1000000/\a3E (a0b l[j])=true
 asc:l.Pairwise fun a b=>a0a a<a0a b
def a02(b:a00):Prop:=∀i,i<4->ListOk i (b i)
theorem agn(i:Nat):ListOk i []:=⟨by simp,fun j h=>by simp at h,List.Pairwise.nil⟩
theorem a4b:a02 a1G:=fun i _=>agn i
theorem ListOk.take{i:Nat}{l:List Ent}(h:ListOk i l)(k:Nat):ListOk i (l.take k):=
 ⟨by have:=h.len;rw[aoy];omega,fun j hj=>by
  have hj2:j<l.length:=by rw[aoy]at hj;omega
  rw[List.getElem_take];exact h.own j hj2,h.asc.sublist (List.take_sublist k l)⟩
theorem ListOk.front{i:Nat}{l m:List Ent}(h:ListOk i l)(hp:m<+:l):ListOk i m:=by
 rw[apw.1 hp];exact h.take _
def a1M(b:a00)(seen:Nat->Int)(i:Nat):List Ent:=(b i).drop (min (max 0 (seen i)) (b i).length).toNat
def a3N(b:a00)(seen:Nat->Int):List Ent:=a1M b seen 0++(a1M b seen 1++(a1M b seen 2++a1M b seen 3))
def a2v(b:a00)(seen:Nat->Int):List Ent:=abo (a3N b seen)
def a06(b:a00):List Ent:=a2v b fun _=>0
theorem ListOk.mem{i:Nat}{l:List Ent}(h:ListOk i l){e:Ent}(he:e∈l):a07 e=i/\1<=a0a e/\a0a e<=1000000/\a3E (a0b e)=true:=by
 obtain⟨j,hj,rfl⟩:=apc he;obtain⟨h1,_,h3,h4,h5⟩:=h.own j hj;exact⟨h1,h3,h4,h5⟩
theorem aie{b:a00}{seen:Nat->Int}{i:Nat}{e:Ent}(h:e∈a1M b seen i):e∈b i:=aq5 h
theorem a5i{b:a00}{seen:Nat->Int}{i:Nat}(h:ListOk i (b i)):a6j (a1M b seen i):=
 (h.asc.sublist (List.drop_sublist _ _)).imp fun hlt hk=>om
theorem a6k{l m:List Ent}(h1:a6j l)(h2:a6j m)(h3:∀a∈l,∀c∈m,a07 a≠a07 c):a6j (l++m):=
 apL.2 ⟨h1,h2,fun a ha c hc hk=>h3 a ha c hc hk.2⟩
theorem a7K{b:a00}(hb:a02 b)(seen:Nat->Int):a6j (a3N b seen):=by
 have hm:∀i,i<4->∀e∈a1M b seen i,a07 e=i:=fun i hi e he=>((hb i hi).mem (aie he)).1
 refine a6k (a5i (hb 0 om)) (a6k (a5i (hb 1 om)) (a6k (a5i (hb 2 om)) (a5i (hb 3 om)) ?_) ?_) ?_
 ·intro a ha c hc;rw[hm 2 om a ha,hm 3 om c hc];omega
 ·intro a ha c hc;rw[hm 1 om a ha];rcases aoI.1 hc with hc|hc
  ·rw[hm 2 om c hc];omega
  rw[hm 3 om c hc];omega
 intro a ha c hc;rw[hm 0 om a ha];rcases aoI.1 hc with hc|hc
 ·rw[hm 1 om c hc];omega
 rcases aoI.1 hc with hc|hc
 ·rw[hm 2 om c hc];omega
 rw[hm 3 om c hc];omega
theorem ago{b:a00}(hb:a02 b)(seen:Nat->Int):Asc (a2v b seen):=a9o (a7K hb seen)
def a0o(l:List Ent):Int:=match l.getLast? with
 |none=>0
 |some e=>a0a e
def a1f(b:a00):Int:=max (max (max (max 0 (a0o (b 0))) (a0o (b 1))) (a0o (b 2))) (a0o (b 3))
def a1g(l m:List Ent):List Ent:=if m.length<l.length then l else m
def a0R(l m:List Ent):Bool:=decide (l<+:m)||decide (m<+:l)
def a3T(b o:a00):Option a00:=if (a0R (b 0) (o 0)&&a0R (b 1) (o 1)&&a0R (b 2) (o 2)&&a0R (b 3) (o 3))=true then some (fun i=>a1g (b i) (o i))else none
end Go.Proofs.YtdfkaijeppdhaaaGreatDoor
namespace Go.Proofs.YtdfkaijeppdhaaaGreatDoor
open Go.RowKit
theorem keep_cell{w w':World}(hb:Below w.heap.size w w'){a:Addr}{v:Value}(h:w.cell? a=some v):w'.cell? a=some v:=
 (hb.cell (World.block_lt_of_cell? _ _ h)).trans h
theorem heap_cell{X:World}{b j:Nat}{A:Array Value}{T:TypeId}{fr:Nat×Nat}{v:Value}(h:X.heap[b]? =some (.cells A T fr))(hj:A[j]? =some v):X.cell? ⟨b,j,none⟩=some v:=by
 simp[World.cell?,h,hj]
structure Off(F:List Nat)(w w':World):Prop where
 os:w'.os=w.os
 tape:w'.tape=w.tape
 output:w'.output=w.output
 size:w.heap.size<=w'.heap.size
 block:∀k,k<w.heap.size->k∉F->w'.heap[k]? =w.heap[k]?
theorem Off.refl(F:List Nat)(w:World):Off F w w:=⟨rfl,rfl,rfl,aof _,fun _ _ _=>rfl⟩
theorem Off.mono{F G:List Nat}{w w':World}(h:Off F w w')(hs:∀k,k∈F->k∈G\/w.heap.size<=k):Off G w w':=
 ⟨h.os,h.tape,h.output,h.size,fun k h1 h2=>h.block k h1 fun h3=>(hs k h3).elim h2 (fun h4=>om)⟩
theorem Off.trans{F:List Nat}{a b c:World}(h:Off F a b)(k:Off F b c):Off F a c:=
 ⟨k.os.trans h.os,k.tape.trans h.tape,k.output.trans h.output,aor h.size k.size,fun i h1 h2=>(k.block i (aox h1 h.size) h2).trans (h.block i h1 h2)⟩
theorem Off.of_below{F:List Nat}{w w':World}(h:Below w.heap.size w w'):Off F w w':=⟨h.os,h.tape,h.output,h.size,fun k h1 _=>h.block k h1⟩
theorem Off.below{F:List Nat}{w w':World}(h:Off F w w'){n:Nat}(hn:n<=w.heap.size)(hF:∀k∈F,n<=k):Below n w w':=
 ⟨h.os,h.tape,h.output,h.size,fun k hk=>h.block k om fun h2=>by have:=hF k h2;omega⟩
def a1s(e:Ent):List Value:=[.int .i64 (a07 e),.int .i64 (a0r e),.int .i64 (a0a e),.string (a0b e)]
def a0i(l:List Ent):List Value:=l.flatMap a1s
theorem a18(l:List Ent):(a0i l).length=l.length * 4:=by
 induction l with
 |nil=>rfl
 |cons e l ih=>simp only[a0i,List.flatMap_cons,aol]at ih⊢;rw[ih];simp[a1s];omega
theorem a2f(l m:List Ent):a0i (l++m)=a0i l++a0i m:=by simp[a0i]
theorem a3b:∀(l:List Ent) (j c:Nat) (h:j<l.length),c<4->(a0i l)[j * 4+c]? =(a1s l[j])[c]?
 |e::l,0,c,_,hc=>by
  simp only[a0i,List.flatMap_cons,Nat.zero_mul,ap5,aoP];rw[apn (by simpa [a1s]using hc)]
 |e::l,j+1,c,h,hc=>by
  have h2:j<l.length:=by simpa using h
  have:=a3b l j c h2 hc;simp only[a0i,List.flatMap_cons,apd]at this⊢;rw[aoX (by simp[a1s];omega),<-this];congr 1;simp[a1s];omega
def a3j(e:Ent):Value:=.agg #[.int .i64 (a07 e),.int .i64 (a0r e),.int .i64 (a0a e),.string (a0b e)]
def EntsAt(w:World)(v:Value)(l:List Ent):Prop:=
 ∃(a:Option Addr) (cap:Nat),v= .slice a l.length cap/\l.length<=9223372036854775807/\
  (0<l.length->∃b off,a=some ⟨b,off,none⟩/\∀j c x,c<4->(a0i l)[j * 4+c]? =some x->w.cell? ⟨b,off+j * 4+c,none⟩=some x)
theorem EntsAt.below{w w':World}{v:Value}{l:List Ent}(h:EntsAt w v l)(hb:Below w.heap.size w w'):EntsAt w' v l:=by
 obtain⟨a,cap,rfl,hl,h⟩:=h;refine⟨a,cap,rfl,hl,fun h0=>?_⟩;obtain⟨b,off,ha,hc⟩:=h h0;exact⟨b,off,ha,fun j c x hcc hx=>keep_cell hb (hc j c x hcc hx)⟩
def ListAt(w:World)(v:Value)(l:List Ent):Prop:=w.ownsRow 0 43 4 v l.length (a0i l)
theorem ListAt.ents{w:World}{v:Value}{l:List Ent}(h:ListAt w v l)(hl:l.length<=9223372036854775807):EntsAt w v l:=by
 have hx:=h.1;rcases h.2 with⟨rfl,h0⟩|⟨g,cap,cur,rfl,hrest⟩
 ·exact⟨none,0,by rw[h0],hl,fun h1=>om⟩
 refine⟨some ⟨g,0,none⟩,cap,rfl,hl,fun _=>⟨g,0,rfl,fun j c x _ hx2=>?_⟩⟩;have hlt:j * 4+c<(a0i l).length:=(api.1 hx2).1
 have:=h.cellAt (j * 4+c) (by rw[a18]at hlt;omega);rw[ap5,this,hx2]
theorem ListAt.keep{w w':World}{v:Value}{l:List Ent}(h:ListAt w v l)(hk:∀k,v.ownBlock=some k->w'.heap[k]? =w.heap[k]?):ListAt w' v l:=by
 refine⟨h.1,?_⟩;rcases h.2 with hn|⟨g,cap,cur,rfl,hbg,hg,hrest⟩
 ·exact .inl hn
 exact .inr ⟨g,cap,cur,rfl,hbg,(hk g rfl).trans hg,hrest⟩
theorem ListAt.lt{w:World}{v:Value}{l:List Ent}(h:ListAt w v l){k:Nat}(hk:v.ownBlock=some k):k<w.heap.size:=by
 rcases h.2 with⟨rfl,_⟩|⟨g,cap,cur,rfl,_,hg,_⟩
 ·simp[Value.ownBlock]at hk
 obtain rfl:g=k:=by simpa [Value.ownBlock]using hk
 exact(aog.1 hg).1
def a2V(v0 v1 v2 v3:Value):List Nat:=v0.ownBlock.toList++(v1.ownBlock.toList++(v2.ownBlock.toList++v3.ownBlock.toList))
def BookAt(w:World)(K:Nat)(F:List Nat)(b:a00):Prop:=
 ∃v0 v1 v2 v3:Value,w.heap[K]? =some (.cells #[v0,v1,v2,v3] 96 (0,0))/\ListAt w v0 (b 0)/\ListAt w v1 (b 1)/\ListAt w v2 (b 2)/\ListAt w v3 (b 3)/\F=a2V v0 v1 v2 v3/\F.Nodup
theorem BookAt.lt{w:World}{K:Nat}{F:List Nat}{b:a00}(h:BookAt w K F b){k:Nat}(hk:k∈F):k<w.heap.size:=by
 obtain⟨v0,v1,v2,v3,_,h0,h1,h2,h3,rfl,_⟩:=h;simp only[a2V,aoI,Option.mem_toList]at hk;rcases hk with hk|hk|hk|hk
 ·exact h0.lt hk
 ·exact h1.lt hk
 ·exact h2.lt hk
 exact h3.lt hk
theorem BookAt.keep{w w':World}{K:Nat}{F:List Nat}{b:a00}(h:BookAt w K F b)(hk:∀k,k=K\/k∈F->w'.heap[k]? =w.heap[k]?):BookAt w' K F b:=by
 obtain⟨v0,v1,v2,v3,hK,h0,h1,h2,h3,rfl,hn⟩:=h
 exact⟨v0,v1,v2,v3,(hk K (.inl rfl)).trans hK,h0.keep (fun k e=>hk k (.inr (by simp[a2V,e]))),h1.keep (fun k e=>hk k (.inr (by simp[a2V,e]))),
  h2.keep (fun k e=>hk k (.inr (by simp[a2V,e]))),h3.keep (fun k e=>hk k (.inr (by simp[a2V,e]))),rfl,hn⟩
def PostAt(w:World)(P:Nat)(F:List Nat)(n:Nat)(b:a00):Prop:=
 ∃(K:Nat) (G:List Nat),w.heap[P]? =some (.cells #[.pointer (some ⟨K,0,none⟩),.int .i64 n] 81 (0,0))/\BookAt w K G b/\F=P::K::G
theorem PostAt.keep{w w':World}{P n:Nat}{F:List Nat}{b:a00}(h:PostAt w P F n b)(hk:∀k∈F,w'.heap[k]? =w.heap[k]?):PostAt w' P F n b:=by
 obtain⟨K,G,hP,hB,rfl⟩:=h;exact⟨K,G,(hk P oz).trans hP,hB.keep (fun k hk2=>hk k (by rcases hk2 with rfl|h<;>simp[*])),rfl⟩
theorem PostAt.lt{w:World}{P n:Nat}{F:List Nat}{b:a00}(h:PostAt w P F n b){k:Nat}(hk:k∈F):k<w.heap.size:=by
 obtain⟨K,G,hP,hB,rfl⟩:=h;rcases aov.1 hk with rfl|hk
 ·exact(aog.1 hP).1
 rcases aov.1 hk with rfl|hk
 ·obtain⟨_,_,_,_,hK,_⟩:=hB;exact(aog.1 hK).1
 exact hB.lt hk
theorem PostAt.off{w w':World}{P n:Nat}{F G:List Nat}{b:a00}(h:PostAt w P F n b)(ho:Off G w w')(hd:∀k∈F,k∉G):PostAt w' P F n b:=
 h.keep fun k hk=>ho.block k (h.lt hk) (hd k hk)
theorem PostAt.below{w w':World}{P n:Nat}{F:List Nat}{b:a00}(h:PostAt w P F n b)(hb:Below w.heap.size w w'):PostAt w' P F n b:=
 h.keep fun k hk=>hb.block k (h.lt hk)
end Go.Proofs.YtdfkaijeppdhaaaGreatDoor
namespace Go.Proofs.YtdfkaijeppdhaaaGreatDoor
open Go
def betw(a b c:Int):Bool:=decide (a<=b)&&decide (b<=c)
theorem betw_iff(a b c:Int):betw a b c=true↔a<=b/\b<=c:=by simp[betw]
theorem a8R(a b c:Int):betw a b c=false↔b<a\/c<b:=by rw[<-Bool.not_eq_true,betw_iff];omega
def a1w(r:Nat):Bool:=decide ((r:Int)<32)||decide (126<(r:Int))
def a1o(r:Nat):Bool:=decide ((r:Int)<97)||decide (122<(r:Int))
def a0n(s:ByteArray):Bool:=decide (s.size<=60)&& !(s.data.toList.any fun c=>a1w c.toNat)
def a03(s:ByteArray):Bool:=betw 1 s.size 8&& !(s.data.toList.any fun c=>a1o c.toNat)
theorem ba_ext{s t:ByteArray}(h:s.data.toList=t.data.toList):s=t:=by
 cases s;cases t
 simp only[ByteArray.mk.injEq];exact Array.toList_inj.1 h
def bsB(l:List UInt8):ByteArray:=⟨l.toArray⟩
theorem a1t(l:List UInt8):(bsB l).data.toList=l:=rfl
theorem a3O(s:ByteArray):bsB s.data.toList=s:=ba_ext rfl
theorem afJ{l m:List UInt8}(h:bsB l=bsB m):l=m:=by rw[<-a1t l,h];rfl
theorem ba_take(s:ByteArray)(i:Nat):s.extract 0 i=bsB (s.data.toList.take i):=by
 apply ba_ext;simp[ByteArray.data_extract,bsB]
theorem ba_drop(s:ByteArray)(i:Nat):s.extract i s.size=bsB (s.data.toList.drop i):=by
 apply ba_ext;simp only[ByteArray.data_extract,Array.toList_extract,List.extract_eq_take_drop,bsB];rw[aou];simp
def itoaB(n:Int):ByteArray:=⟨(Lib.itoa n).toArray⟩
def a0l(c:UInt8):Nat->List UInt8->List (List UInt8)
 |_,[]=>[[]]
 |0,l=>[l]
 |k+1,b::r=>if b==c then []::a0l c k r else match a0l c (k+1) r with
  |[]=>[[b]]
  |x::xs=>(b::x)::xs
theorem a5V(c:UInt8)(k:Nat)(l:List UInt8):a0l c k l≠[]:=by
 cases l with
 |nil=>cases k<;>simp[a0l]
 | cons b r=>
  cases k with
  |zero=>simp[a0l]
  |succ k=>
   unfold a0l;split
   ·simp
   split<;>simp
theorem a1p(c:UInt8)(l:List UInt8):a0l c 0 l=[l]:=by cases l<;>rfl
theorem a4k(c:UInt8)(k:Nat):∀l:List UInt8,(Lib.indexByte l c= -1/\a0l c (k+1) l=[l])\/(∃i:Nat,Lib.indexByte l c=i/\i<l.length/\a0l c (k+1) l=l.take i::a0l c k (l.drop (i+1)))
 |[]=>.inl ⟨rfl,rfl⟩
 | b::r=>by
  by_cases h:b=c
  ·subst h;exact .inr ⟨0,by simp[Lib.indexByte],by simp,by simp[a0l]⟩
  have hb:(b==c)=false:=by simpa using h
  rcases a4k c k r with⟨h1,h2⟩|⟨i,h1,h2,h3⟩
  ·exact .inl ⟨by simp[Lib.indexByte,hb,h1],by simp[a0l,hb,h2]⟩
  refine .inr ⟨i+1,?_,by simp[h2],?_⟩
  ·unfold Lib.indexByte;rw[hb,h1];have:((i:Int)== -1)=false:=by simp
   simp[this]
  rw[show a0l c (k+1) (b::r)=match a0l c (k+1) r with|[]=>[[b]]|x::xs=>(b::x)::xs by simp[a0l,hb],h3];simp
def a1C(c:UInt8)(k:Nat)(s:ByteArray):List ByteArray:=(a0l c k s.data.toList).map bsB
theorem aif(c:UInt8)(k:Nat)(s:ByteArray):a1C c k s≠[]:=fun h=>a5V c k s.data.toList (apD.1 h)
theorem a7L(c:UInt8):∀(k:Nat) (s:ByteArray),Lib.splitB ⟨#[c]⟩ 0 k s=a1C c k s
 |0,s=>by unfold a1C;rw[a1p];simp[Lib.splitB,a3O]
 |k+1,s=>by
  have hi:Lib.indexB s ⟨#[c]⟩=Lib.indexByte s.data.toList c:=Lib.index_one _ _;unfold a1C;rcases a4k c k s.data.toList with⟨h1,h2⟩|⟨i,h1,h2,h3⟩
  ·rw[Lib.splitB_miss _ _ _ _ (hi.trans h1),h2];simp[a3O]
  rw[Lib.splitB_hit _ _ _ _ i (hi.trans h1),h3,aoJ,a7L c k,apM,ba_take,show (⟨#[c]⟩:ByteArray).size=1 from rfl,ba_drop];rfl
theorem abX(c:UInt8):∀(f:Nat) (l:List UInt8),l.length<f->Lib.countFrom [c] f l=l.count c
 |0,l,h=>om
 | f +1,l,h=>by
  unfold Lib.countFrom;rw[Lib.index_one];rcases a4k c 0 l with⟨h1,h2⟩|⟨i,h1,h2,h3⟩
  ·rw [h1]
   have hn:c∉l:=fun hm=>by
    clear h h2;induction l with
    |nil=>simp at hm
    | cons b r ih=>
     unfold Lib.indexByte at h1;split at h1
     ·simp at h1
     rename_i hb
     split at h1
     ·rename_i hr
      rcases aov.1 hm with rfl|hm
      ·simp at hb
      exact ih (by simpa using hr) hm
     have:=Lib.indexByte_ge r c;omega
   rw[List.count_eq_zero.2 hn];rfl
  rw[h1];have hne:((i:Int)== -1)=false:=by simp
  have hsp:l=l.take i++(c::l.drop (i+1)):=by
   have hget:l[i]'h2=c/\c∉l.take i:=by
    clear h hne h3;induction l generalizing i with
    |nil=>simp at h2
    | cons b r ih=>
     unfold Lib.indexByte at h1;split at h1
     ·rename_i hb
      have:i=0:=om;subst this;simp at hb⊢;exact hb
     rename_i hb
     split at h1
     ·omega
     rename_i hr
     have hr':Lib.indexByte r c≠ -1:=by simpa using hr
     obtain⟨j,rfl⟩:∃j,i=j+1:=⟨i-1,by have:=Lib.indexByte_ge r c;omega⟩
     have:=ih j om (by simpa using h2);refine⟨by simpa using this.1,?_⟩;simp only[List.take_succ_cons,aov,not_or];exact⟨fun e=>hb (by simp[e]),this.2⟩
   conv=>lhs;rw[<-ap9 i l]
   rw[aoL h2,hget.1]
  have hnt:(l.take i).count c=0:=by
   refine List.count_eq_zero.2 fun hm=>?_;clear h hne h3 hsp;induction l generalizing i with
   |nil=>simp at h2
   |cons b r ih=>
    unfold Lib.indexByte at h1;split at h1
    ·have:i=0:=om;subst this;simp at hm
    rename_i hb
    split at h1
    ·omega
    rename_i hr
    have hr':Lib.indexByte r c≠ -1:=by simpa using hr
    obtain⟨j,rfl⟩:∃j,i=j+1:=⟨i-1,by have:=Lib.indexByte_ge r c;omega⟩
    rw[List.take_succ_cons,aov]at hm;rcases hm with rfl|hm
    ·simp at hb
    exact ih j om (by simpa using h2) hm
  rw[hne];simp only[Bool.false_eq_true,if_false,aoY,aom,aow,ap5];rw[abX c f _ (by rw[aoG];omega)];conv=>rhs;rw[hsp]
  rw[List.count_append,hnt,List.count_cons_self];omega
theorem aa0(s:ByteArray)(c:UInt8):Lib.countB s ⟨#[c]⟩=s.data.toList.count c:=abX c _ _ (aoQ _)
def splitA(c:UInt8)(s:ByteArray):List ByteArray:=a1C c (s.data.toList.count c) s
theorem agp(s:ByteArray)(c:UInt8):Lib.splitB ⟨#[c]⟩ 0 (Lib.countB s ⟨#[c]⟩) s=splitA c s:=by rw[aa0,a7L];rfl
theorem a6O(c:UInt8):∀l:List UInt8,(a0l c (l.count c) l).length=l.count c+1
 |[]=>rfl
 | b::r=>by
  by_cases hb:b=c
  ·subst hb;rw[List.count_cons_self];simp only[a0l,BEq.rfl,if_true,aom];rw[a6O b r]
  have hbc:(b==c)=false:=by simpa using hb
  rw[List.count_cons_of_ne hb];have ih:=a6O c r;cases h0:r.count c with
  |zero=>rw[a1p];rfl
  |succ m=>
   rw[h0]at ih;simp only[a0l,hbc,Bool.false_eq_true,if_false];generalize a0l c (m+1) r=q at *;cases q with
   |nil=>simp at ih
   |cons x xs=>simpa using ih
theorem splitA_len(c:UInt8)(s:ByteArray):(splitA c s).length=s.data.toList.count c+1:=by unfold splitA a1C;rw[aoB,a6O]
theorem abY(c:UInt8)(s:ByteArray):splitA c s≠[]:=aif _ _ _
theorem a4M(c:UInt8):∀(l:List UInt8) (k:Nat),Lib.join (a0l c k l) [c]=l
 |[],k=>by cases k<;>rfl
 |b::r,0=>by rw[a1p,Lib.join_one]
 | b::r,k+1=>by
  by_cases hb:b=c
  ·subst hb;simp only[a0l,BEq.rfl,if_true];have ih:=a4M b r k;rw[Lib.join_cons];cases hq:a0l b k r with
   |nil=>exact absurd hq (a5V _ _ _)
   |cons x xs=>
    rw[hq,Lib.join_cons]at ih;simp only[Lib.joinTail,aoJ,List.flatten_cons,aoM,aoA]at ih⊢;rw[ih]
  have hbc:(b==c)=false:=by simpa using hb
  have ih:=a4M c r (k+1);simp only[a0l,hbc,Bool.false_eq_true,if_false];cases hq:a0l c (k+1) r with
  |nil=>exact absurd hq (a5V _ _ _)
  |cons x xs=>
   rw[hq,Lib.join_cons]at ih;rw[Lib.join_cons,aoA,ih]
theorem aeT(c:UInt8)(k:Nat)(l x:List UInt8)(xs:List (List UInt8))(h:a0l c k l=x::xs)(hx:xs≠[]):l=x++c::Lib.join xs [c]:=by
 have:=a4M c l k;rw[h,Lib.join_cons]at this;obtain⟨y,ys,rfl⟩:∃y ys,xs=y::ys:=by cases xs with|nil=>exact absurd rfl hx|cons y ys=>exact⟨y,ys,rfl⟩
 rw[<-this,Lib.join_cons];simp[Lib.joinTail]
end Go.Proofs.YtdfkaijeppdhaaaGreatDoor
namespace Go.Proofs.YtdfkaijeppdhaaaGreatDoor
open Go
def noE:Ent:=(0,0,0,⟨#[]⟩)
def emp:ByteArray:=⟨#[]⟩
theorem a2h(u:Nat):∀x∈Lib.decDigits u,48<=x.toNat/\x.toNat<=57:=by
 induction u using Nat.strongRecOn with
 | _ u ih=>
  intro x hx;rw[Lib.decDigits]at hx
  have one:∀d,d<10->48<=(UInt8.ofNat (48+d)).toNat/\(UInt8.ofNat (48+d)).toNat<=57:=fun d hd=>by
   rw[UInt8.toNat_ofNat'];omega
  split at hx
  ·rename_i h
   have:x=UInt8.ofNat (48+u):=by simpa using hx
   rw[this];exact one u h
  rename_i h
  rcases aoI.1 hx with hx|hx
  ·exact ih (u / 10) om x hx
  have:x=UInt8.ofNat (48+u % 10):=by simpa using hx
  rw[this];exact one (u % 10) om
theorem a7M(n:Int):∀x∈Lib.itoa n,x.toNat=45\/48<=x.toNat/\x.toNat<=57:=by
 intro x hx;unfold Lib.itoa at hx;split at hx
 ·rcases aov.1 hx with rfl|hx
  ·exact .inl rfl
  exact .inr (a2h _ x hx)
 exact .inr (a2h _ x hx)
theorem nDigits_le:∀(k u:Nat),u<10^(k+1)->Lib.nDigits u<=k+1
 |0,u,h=>by rw[Lib.nDigits_small (by simpa using h)];exact aof _
 |k+1,u,h=>by
  by_cases h1:u<10
  ·rw[Lib.nDigits_small h1];omega
  rw[Lib.nDigits_big h1];have:=nDigits_le k (u / 10) (by rw[Nat.pow_succ]at h;omega);omega
theorem aig{n:Int}(h0: -9999<=n)(h1:n<=9999):(Lib.itoa n).length<=5:=by
 unfold Lib.itoa;split
 ·rw[aom,Lib.decDigits_length];have:=nDigits_le 3 n.natAbs om;omega
 rw[Lib.decDigits_length];have:=nDigits_le 3 n.toNat om;omega
theorem itoa_len{n:Int}(h0: -1000000000<=n)(h1:n<=1000000000):(Lib.itoa n).length<=11:=by
 unfold Lib.itoa;split
 ·rw[aom,Lib.decDigits_length];have:=nDigits_le 9 n.natAbs om;omega
 rw[Lib.decDigits_length];have:=nDigits_le 9 n.toNat om;omega
theorem a3o(u:Nat):Lib.decDigits u≠[]:=by
 intro h;have:=Lib.decDigits_length u;rw[h]at this;have:=Lib.nDigits_pos u;simp at *;omega
def a0d(s:ByteArray):Option Int:=match Lib.atoiAll s.data.toList with
 | .ok v=>if decide (itoaB v=s)&&betw (-9999) v 9999 then some v else none
 |_=>none
theorem a4c{s:ByteArray}{v:Int}(h:a0d s=some v):s=itoaB v/\ -9999<=v/\v<=9999:=by
 unfold a0d at h;split at h
 ·split at h
  ·rename_i hc
   rw[Bool.and_eq_true,decide_eq_true_eq,betw_iff]at hc;simp only[Option.some.injEq]at h;subst h;exact⟨hc.1.symm,hc.2⟩
  cases h
 cases h
def allS{α β:Type}(f:α->Option β):List α->Option (List β)
 |[]=>some []
 |x::xs=>match f x,allS f xs with
  |some y,some ys=>some (y::ys)
  |_,_=>none
theorem allS_snoc{α β:Type}(f:α->Option β)(xs:List α)(x:α):allS f (xs++[x])=match allS f xs,f x with
  |some ys,some y=>some (ys++[y])
  |_,_=>none:=by
 induction xs with
 |nil=>simp only[aoM,allS];cases f x<;>rfl
 |cons z zs ih=>
  rw[aoA,allS,ih];cases h1:f z<;>cases h2:allS f zs<;>cases h3:f x<;>simp[allS,h1,h2]
theorem allS_bad{α β:Type}(f:α->Option β)(xs:List α){x:α}(hx:x∈xs)(h:f x=none):allS f xs=none:=by
 induction xs with
 |nil=>simp at hx
 |cons z zs ih=>
  rcases aov.1 hx with rfl|hx
  ·simp[allS,h]
  rw[allS,ih hx];cases f z<;>rfl
theorem allS_len{α β:Type}(f:α->Option β):∀(xs:List α) (ys:List β),allS f xs=some ys->ys.length=xs.length
 |[],ys,h=>by simp only[allS,Option.some.injEq]at h;subst h;rfl
 |x::xs,ys,h=>by
  rw[allS]at h;cases h1:f x<;>cases h2:allS f xs<;>simp[h1,h2]at h
  subst h;simp[allS_len f xs _ h2]
def a0x(l:List ByteArray):ByteArray:=bsB (Lib.join (l.map (·.data.toList)) [32])
inductive Cmd where
 |put (name text:ByteArray)
 |drop (name:ByteArray)
 |add (name:ByteArray) (n:Int)
 |stock (name:ByteArray)
 |share (n:Int) (names:List ByteArray)
 |asked (k:Nat) (names:List ByteArray) (ns:List Int)
def Cmd.deed:Cmd->Bool
 | .put .. =>true
 | .drop .. =>true
 | .add .. =>true
 |_=>false
def putW:ByteArray:=⟨#[112,117,116]⟩
def dropW:ByteArray:=⟨#[100,114,111,112]⟩
def stockW:ByteArray:=⟨#[115,116,111,99,107]⟩
def addW:ByteArray:=⟨#[97,100,100]⟩
def shareW:ByteArray:=⟨#[115,104,97,114,101]⟩
def textW:ByteArray:=⟨#[116,101,120,116]⟩
def beatW:ByteArray:=⟨#[98,101,97,116]⟩
def farW:ByteArray:=⟨#[102,97,114]⟩
def driftW:ByteArray:=⟨#[100,114,105,102,116]⟩
def a3F(w:ByteArray):Option (Nat×Nat×Nat):=
 if w=textW then some (0,1,0)else if w=beatW then some (1,1,0)else if w=farW then some (2,2,0)else if w=driftW then some (3,1,2)else none
def a2j(w:ByteArray)(rest:List ByteArray):Option Cmd:=match a3F w with
 |none=>none
 |some (k,many,nums)=>if rest.length≠many+nums then none else
  match (rest.take many).all a03,allS a0d (rest.drop many)with
  |true,some ns=>some (.asked k (rest.take many) ns)
  |_,_=>none
def a0Y(w r0:ByteArray)(rs:List ByteArray)(line:ByteArray):Option Cmd:=
 if w=putW then (if a03 r0&& !(a0x rs).data.toList.isEmpty&&a0n line then some (.put r0 (a0x rs))else none)
 else if w=dropW then (if decide (rs=[])&&a03 r0 then some (.drop r0)else none)
 else if w=stockW then (if decide (rs=[])&&a03 r0 then some (.stock r0)else none)
 else if w=addW then (match allS a0d rs with
  |some [n]=>if a03 r0 then some (.add r0 n)else none
  |_=>none)
 else if w=shareW then (match a0d r0 with
  |some n=>if rs.all a03&&betw 1 rs.length 8 then some (.share n rs)else none
  |none=>none)
 else a2j w (r0::rs)
def a08(line:ByteArray):Option Cmd:=match splitA 32 line with
 |w::r0::rs=>a0Y w r0 rs line
 |_=>none
theorem a1d(s:ByteArray):a0n s=true↔s.size<=60/\∀c∈s.data.toList,32<=c.toNat/\c.toNat<=126:=by
 unfold a0n;rw[Bool.and_eq_true,decide_eq_true_eq,Bool.not_eq_true',aq3];refine and_congr_right fun _=>forall_congr' fun c=>forall_congr' fun _=>?_;unfold a1w;rw[Bool.not_eq_true,Bool.or_eq_false_iff,decide_eq_false_iff_not,decide_eq_false_iff_not];omega
theorem a6l(s:ByteArray):a03 s=true↔1<=s.size/\s.size<=8/\∀c∈s.data.toList,97<=c.toNat/\c.toNat<=122:=by
 unfold a03;rw[Bool.and_eq_true,betw_iff,Bool.not_eq_true',aq3,and_assoc];refine and_congr om (and_congr om (forall_congr' fun c=>forall_congr' fun _=>?_));unfold a1o;rw[Bool.not_eq_true,Bool.or_eq_false_iff,decide_eq_false_iff_not,decide_eq_false_iff_not];omega
theorem a1I(s:ByteArray):a3E s=a0n s:=by
 rw[Bool.eq_iff_iff,a1d];unfold a3E;rw[Bool.and_eq_true,decide_eq_true_eq,ap6];refine and_congr_right fun _=>forall_congr' fun c=>forall_congr' fun _=>?_;rw[Bool.and_eq_true,decide_eq_true_eq,decide_eq_true_eq]
theorem a05(s:ByteArray):s.size=s.data.toList.length:=by simp
theorem a3P{s w:ByteArray}{rs:List ByteArray}(h:splitA 32 s=w::rs)(hr:rs≠[]):s.data.toList=w.data.toList++32::(a0x rs).data.toList:=by
 unfold splitA a1C at h;obtain⟨x,xs,hq,hx,hxs⟩:=List.map_eq_cons_iff.1 h;have:=aeT 32 _ _ x xs hq (by rintro rfl;simp at hxs;exact hr hxs);rw[this,<-hx,<-hxs];simp[a0x,bsB,apx,Function.comp_def]
theorem a5W(r:ByteArray):a0x [r]=r:=by unfold a0x;rw[List.map_singleton,Lib.join_one];exact a3O r
theorem a6P(r r2:ByteArray)(rs:List ByteArray):(a0x (r::r2::rs)).data.toList=r.data.toList++32::(a0x (r2::rs)).data.toList:=by
 unfold a0x;rw[a1t,a1t,aoJ,aoJ,Lib.join_cons,Lib.join_cons];simp[Lib.joinTail]
theorem adi{s:ByteArray}{a b:List UInt8}(h:s.data.toList=a++32::b)(hl:a.length+b.length+1<=60)(ha:∀c∈a,32<=c.toNat/\c.toNat<=126)(hb:∀c∈b,32<=c.toNat/\c.toNat<=126):a0n s=true:=by
 rw[a1d,a05,h];refine⟨by simp;omega,fun c hc=>?_⟩;rcases aoI.1 hc with hc|hc
 ·exact ha c hc
 rcases aov.1 hc with rfl|hc
 ·decide
 exact hb c hc
theorem a4d{s:ByteArray}{c:Cmd}(h:a08 s=some c)(hd:c.deed=true):a0n s=true:=by
 unfold a08 at h;split at h
 ·rename_i w r0 rs hs
  unfold a0Y at h;split at h
  ·split at h
   ·rename_i hc
    rw[Bool.and_eq_true]at hc;exact hc.2
   cases h
  split at h
  ·rename_i hw
   split at h
   ·rename_i hc
    rw[Bool.and_eq_true,decide_eq_true_eq,a6l]at hc;obtain⟨rfl,h1,h2,h3⟩:=hc;have he:=a3P hs oz;rw[a5W]at he;subst hw;exact adi he (by have h4:dropW.data.toList.length=4:=rfl;have h5:=a05 r0;omega) ox (fun c hc=>by have:=h3 c hc;omega)
   cases h
  split at h
  ·split at h
   ·cases h;cases hd
   cases h
  split at h
  ·rename_i hw
   split at h
   ·rename_i n hn
    split at h
    ·rename_i hc
     rw[a6l]at hc;obtain⟨h1,h2,h3⟩:=hc
     obtain⟨r1,rfl⟩:∃r1,rs=[r1]:=by
      have:=allS_len _ _ _ hn;match rs,this with
      |[r],_=>exact⟨r,rfl⟩
     have hn1:a0d r1=some n:=by
      unfold allS at hn;cases h4:a0d r1 with
      |none=>simp[h4]at hn
      |some v=>simpa [h4,allS]using hn
     obtain⟨e1,b1,b2⟩:=a4c hn1;have he:=a3P hs oz;rw[a6P,a5W]at he;subst hw;have l1:=aig b1 b2;have e2:r1.data.toList=Lib.itoa n:=by rw[e1];rfl
     rw[e2]at he;refine adi (a:=addW.data.toList) (b:=r0.data.toList++32::Lib.itoa n) he (by have h4:addW.data.toList.length=3:=rfl;have h5:=a05 r0;rw[aol,aom];omega) ox (fun c hc=>?_);rcases aoI.1 hc with hc|hc
     ·have:=h3 c hc;omega
     rcases aov.1 hc with rfl|hc
     ·decide
     have:=a7M n c hc;omega
    cases h
   cases h
  split at h
  ·split at h
   ·split at h
    ·cases h;cases hd
    cases h
   cases h
  unfold a2j at h;split at h
  ·cases h
  split at h
  ·cases h
  split at h
  ·cases h;cases hd
  cases h
 cases h
structure Kn where
 txt:ByteArray->Option ByteArray
 stk:ByteArray->Int
def kn0:Kn:=⟨fun _=>none,fun _=>0⟩
def upd{α:Type}(f:ByteArray->α)(x:ByteArray)(v:α):ByteArray->α:=fun y=>if y=x then v else f y
theorem a6Q{α:Type}(f:ByteArray->α)(x:ByteArray)(v:α):upd f x v x=v:=by simp[upd]
theorem a7N{α:Type}(f:ByteArray->α){x y:ByteArray}(v:α)(h:y≠x):upd f x v y=f y:=by simp[upd,h]
def a19:Cmd->Kn->(ByteArray×Int)×Kn
 | .put n t,k=>((t,0),⟨upd k.txt n (some t),k.stk⟩)
 | .drop n,k=>match k.txt n with
  |none=>((emp,5),k)
  |some s=>((s,0),⟨upd k.txt n none,k.stk⟩)
 | .add n m,k=>((itoaB (k.stk n+m),0),⟨k.txt,upd k.stk n (k.stk n+m)⟩)
 |_,k=>((emp,0),k)
def a10(k:Kn)(s:ByteArray):Kn:=match a08 s with
 |some c=>if c.deed then (a19 c k).2 else k
 |none=>k
def a1Z(k:Kn)(l:List Ent):Kn:=l.foldl (fun k e=>a10 k (a0b e)) k
def a0e(l:List Ent):Kn:=a1Z kn0 l
theorem agq(l:List Ent)(e:Ent):a0e (l++[e])=a10 (a0e l) (a0b e):=by unfold a0e a1Z;rw[apl];rfl
def a1h(b:a00)(n:Nat)(line:ByteArray):Ent:=((n:Int),((b n).length:Int)+1,a1f b+1,line)
def a0H(b:a00)(n:Nat)(e:Ent):a00:=abp b n (b n++[e])
def doB(b:a00)(n:Nat)(line:ByteArray):ByteArray×Int×a00:=match a08 line with
 |none=>(emp,100,b)
 |some c=>if c.deed=false then (emp,100,b)else
  if 60<=(b n).length\/1000000<=a1f b then (emp,4,b)else
  if (a19 c (a0e (a06 b))).1.2=0 then ((a19 c (a0e (a06 b))).1.1,0,a0H b n (a1h b n line))else (emp,(a19 c (a0e (a06 b))).1.2,b)
theorem a7O(l:List Ent)(e:Ent):a0o (l++[e])=a0a e:=by unfold a0o;simp
theorem a6R{i:Nat}{l:List Ent}(h:ListOk i l):0<=a0o l/\a0o l<=1000000:=by
 unfold a0o;cases hl:l.getLast? with
 |none=>simp
 |some e=>have:=h.mem (List.mem_of_getLast? hl);simp;omega
theorem aeU{i:Nat}{l:List Ent}(h:ListOk i l){e:Ent}(he:e∈l):a0a e<=a0o l:=by
 obtain⟨j,hj,rfl⟩:=apc he
 have hl:a0o l=a0a (l[l.length-1]' om):=by
  unfold a0o;rw[List.getLast?_eq_getElem?,aoj om]
 rw[hl];by_cases hjl:j=l.length-1
 ·subst hjl;exact aoR _
 exact Int.le_of_lt (apo.1 h.asc j (l.length-1) hj om om)
theorem a4w{b:a00}(hb:a02 b):0<=a1f b/\a1f b<=1000000:=by
 have h0:=a6R (hb 0 om);have h1:=a6R (hb 1 om);have h2:=a6R (hb 2 om);have h3:=a6R (hb 3 om);unfold a1f;omega
theorem a91(b:a00){i:Nat}(hi:i<4):a0o (b i)<=a1f b:=by
 unfold a1f;rcases (show i=0\/i=1\/i=2\/i=3 by omega)with rfl|rfl|rfl|rfl<;>omega
theorem a92{i:Nat}{l:List Ent}(h:ListOk i l){e:Ent}(hlen:l.length<60)(h1:a07 e=i)(h2:a0r e=(l.length:Int)+1)(h3:1<=a0a e)(h4:a0a e<=1000000)(h5:a3E (a0b e)=true)(h6:a0o l<a0a e):ListOk i (l++[e]):=by
 refine⟨by simp;omega,fun j hj=>?_,apL.2 ⟨h.asc,List.pairwise_singleton _ _,fun a ha c hc=>?_⟩⟩
 ·by_cases hjl:j<l.length
  ·rw[apA hjl];exact h.own j hjl
  have hjl2:j=l.length:=by simp at hj;omega
  subst hjl2;simp only[List.getElem_append_right (aof _),aq8,aoP];exact⟨h1,by simpa using h2,h3,h4,h5⟩
 have:c=e:=by simpa using hc
 subst this;have:=aeU h ha;omega
theorem afK{b:a00}(hb:a02 b){n:Nat}{l:List Ent}(hl:ListOk n l):a02 (abp b n l):=fun i hi=>by
 by_cases h:i=n
 ·subst h;rw[a3n];exact hl
 rw[a2U _ _ h];exact hb i hi
theorem akx{b:a00}(hb:a02 b){n:Nat}(hn:n<4){line:ByteArray}(h1:(b n).length<60)(h2:a1f b<1000000)(h3:a0n line=true):a02 (a0H b n (a1h b n line)):=by
 have hc:=a4w hb;have hl:=a91 b hn;exact afK hb (a92 (hb n hn) h1 rfl rfl (by show 1<=a1f b+1;omega) (by show a1f b+1<=1000000;omega) (by rw[a1I];exact h3) (by show a0o (b n)<a1f b+1;omega))
theorem aa1{b:a00}(hb:a02 b){n:Nat}(hn:n<4)(line:ByteArray):a02 (doB b n line).2.2:=by
 unfold doB;split
 ·exact hb
 rename_i c hp
 split
 ·exact hb
 rename_i hd
 split
 ·exact hb
 rename_i hlim
 split
 ·exact akx hb hn om om (a4d hp (by simpa using hd))
 exact hb
theorem adj{i:Nat}{l m:List Ent}(hl:ListOk i l)(hm:ListOk i m):ListOk i (a1g l m):=by unfold a1g;split<;>assumption
theorem aky{b o c:a00}(hb:a02 b)(ho:a02 o)(h:a3T b o=some c):a02 c:=by
 unfold a3T at h;split at h
 ·simp only[Option.some.injEq]at h;subst h;exact fun i hi=>adj (hb i hi) (ho i hi)
 cases h
end Go.Proofs.YtdfkaijeppdhaaaGreatDoor
namespace Go.Proofs.YtdfkaijeppdhaaaGreatDoor
open Go
theorem agr(b:a00)(i:Nat):a1M b (fun _=>0) i=b i:=by
 unfold a1M;rw[show (min (max 0 (0:Int)) ((b i).length:Int)).toNat=0 by omega,List.drop_zero]
theorem a5X(b:a00):a3N b (fun _=>0)=b 0++(b 1++(b 2++b 3)):=by unfold a3N;simp only[agr]
theorem a5Y(b:a00):(a06 b).Perm (b 0++(b 1++(b 2++b 3))):=by
 have:=a4a (a3N b fun _=>0);rw[a5X]at this;unfold a06 a2v;rw[a5X];exact this
theorem adk{b:a00}{e:Ent}(h:e∈a06 b):∃i,i<4/\e∈b i:=by
 have:=(a5Y b).mem_iff.1 h
 simp only[aoI]at this;rcases this with h|h|h|h
 ·exact⟨0,om,h⟩
 ·exact⟨1,om,h⟩
 ·exact⟨2,om,h⟩
 exact⟨3,om,h⟩
def lenB(b:a00):Nat:=(b 0).length+(b 1).length+(b 2).length+(b 3).length
theorem a1j(b:a00):(a06 b).length=lenB b:=by
 rw[(a5Y b).length_eq];unfold lenB;simp;omega
theorem a1X{b:a00}(hb:a02 b):lenB b<=240:=by
 have h0:=(hb 0 om).len
 have h1:=(hb 1 om).len
 have h2:=(hb 2 om).len
 have h3:=(hb 3 om).len
 unfold lenB;omega
theorem akz{l:List Ent}(h:Asc l):a6j l:=h.imp fun hlt hk=>by unfold eLt at hlt;omega
theorem abZ{l m:List Ent}(hp:l.Perm m)(h:a6j l):a6j m:=(List.Perm.pairwise_iff (fun {a b} (hk:¬(a0a a=a0a b/\a07 a=a07 b)) h2=>hk ⟨h2.1.symm,h2.2.symm⟩) hp).1 h
theorem aeV{b:a00}{m:List Ent}(hm:Asc m)(hp:m.Perm (a06 b)):m=a06 b:=
 a90 hm (abZ (hp.trans (a4a _)) (akz hm)) (hp.trans (a4a _))
def BookEq(b c:a00):Prop:=∀i,i<4->b i=c i
theorem BookEq.refl(b:a00):BookEq b b:=fun _ _=>rfl
theorem BookEq.symm{b c:a00}(h:BookEq b c):BookEq c b:=fun i hi=>(h i hi).symm
theorem BookEq.trans{b c d:a00}(h:BookEq b c)(k:BookEq c d):BookEq b d:=fun i hi=>(h i hi).trans (k i hi)
theorem BookEq.all{b c:a00}(h:BookEq b c):a06 b=a06 c:=by
 unfold a06 a2v;rw[a5X,a5X,h 0 om,h 1 om,h 2 om,h 3 om]
theorem BookEq.cnt{b c:a00}(h:BookEq b c):a1f b=a1f c:=by
 unfold a1f;rw[h 0 om,h 1 om,h 2 om,h 3 om]
theorem BookEq.ok{b c:a00}(h:BookEq b c)(hb:a02 b):a02 c:=fun i hi=>by rw[<-h i hi];exact hb i hi
theorem aih(l m:List Ent):(a1g l m).length=max l.length m.length:=by unfold a1g;split<;>omega
def a4l(b o:a00):a00:=fun i=>a1g (b i) (o i)
theorem join_len(b o:a00)(i:Nat):(a4l b o i).length=max (b i).length (o i).length:=aih _ _
theorem aa2{l m:List Ent}(h:m<+:l):a1g l m=l:=by
 unfold a1g;split
 ·rfl
 exact(h.eq_of_length (by have:=h.length_le;omega))
def a3G(e:Ent):List UInt8:=Lib.itoa (a07 e)++32::(Lib.itoa (a0r e)++32::(Lib.itoa (a0a e)++32::((a0b e).data.toList++[10])))
def a0Q(l:List Ent):List UInt8:=l.flatMap a3G
def a0z(b:a00):ByteArray:=bsB (a0Q (a06 b))
theorem BookEq.text{b c:a00}(h:BookEq b c):a0z b=a0z c:=by unfold a0z;rw[h.all]
theorem a7P(n:Int):(10:UInt8)∉Lib.itoa n:=fun h=>by have:=a7M n _ h;simp at this
theorem aij{s:ByteArray}(h:a3E s=true):(10:UInt8)∉s.data.toList:=fun hm=>by
 rw[a1I,a1d]at h;have:=h.2 _ hm;simp at this
end Go.Proofs.YtdfkaijeppdhaaaGreatDoor
