/- Part of the proof. -/
import Derived.Test.YtdfkaijeppdhaaaGreatDoorZHt00
import Derived.Deep.RegionHeld
import Derived.WalkSpells
import Derived.WalkLawsBesides
import Derived.Lib.Hide
import Derived.Lib.Split
import Derived.Lib.AtoiAll
import Derived.Lib.ItoaNum
import Derived.Lib.Join

set_option maxRecDepth 100000
set_option maxHeartbeats 8000000
set_option linter.unusedSimpArgs false
set_option linter.unusedVariables false

namespace Go.Proofs.YtdfkaijeppdhaaaGreatDoor
open Go
theorem exq{α:Type}{p q:α->Prop}(v:α)(h1:p v)(h2:q v):∃v,p v/\q v:=⟨v,h1,h2⟩
theorem gS:(∀(a:Act) (t:Tmp) (v:Value),a.put (some t) v={a with tmps:=a.tmps.setIfInBounds t v})/\(∀(a:Act) (v:Value),a.put none v=a)/\(∀{α:Type} {l:List α} {i:Nat} (h:i<l.toArray.size),l.toArray[i]=l[i]'(by simpa using h))/\(∀{α:Type} {a:α} {l:List α} {h:0<(a::l).length},(a::l)[0]=a)/\
  (∀{α:Type} {a:α} {l:List α} {i:Nat} {h:i+1<(a::l).length},(a::l)[i+1]=l[i]'(by simpa using h))/\(∀{α:Type} {l:List α} {i:Nat} {a:α},l.toArray.setIfInBounds i a=(l.set i a).toArray)/\
  (∀{α:Type} {a b:α} {l:List α},(a::l).set 0 b=b::l)/\∀{α:Type} {a b:α} {l:List α} {n:Nat},(a::l).set (n+1) b=a::l.set n b:=
 ⟨fun _ _ _=>rfl,fun _ _=>rfl,fun h=>amK h,rfl,rfl,alR ..,rfl,rfl⟩
def TK(_:List Nat)(p:Prop):Prop:=p
theorem tk(is:List Nat){p:Prop}(h:TK is p):p:=h
theorem tkE{p:Prop}(h:p):TK [] p:=h
section
variable{P:Program}{ops:Array Oper}{Q:Exit->Act->World->Prop}{md:Region.Mode}{S:World->Prop}{is:List Nat}{oi:Oper}{fuel:Nat}{listed:Array Bool}{a:Act}{w:World}
theorem tkC{i:Nat}(hS:S w)(hi:ops[i]? =some oi:=by rfl)
  (hs:Region.noSelect ops=true:=by kernel_rfl)(hf:Region.free md ops listed i=true:=by kernel_rfl)(hr:(Region.ready md ops listed).contains i=true:=by kernel_rfl)
  (hQ:∀v c a w,Q (.panic c) (a.put oi.dst v) w->Q (.panic c) a w:=by first|exact fun _ _ _ _ h=>h|exact fun _ _ _ _ h=>nomatch h.1)(hw:Region.wanted oi (yielded ops a.tmps)=true:=by rfl)
  (h:∃v,(∀W,S W->(execOp a.eval oi).run P W= .ok (.value v) W)/\TK is (wpAnyH P md ops Q S fuel (listed.setIfInBounds i true) (a.put oi.dst v) w)):TK (i::is) (wpAnyH P md ops Q S (fuel+1) listed a w):=by
 obtain⟨v,h1,h2⟩:=h;exact wpAnyH_take hi hs hf hr (hQ v) (Or.inl ⟨hw,h1⟩) hS h2
theorem tkV(i:Nat)(v:Value)(hS:S w)(hi:ops[i]? =some oi:=by rfl)
  (hs:Region.noSelect ops=true:=by kernel_rfl)(hf:Region.free md ops listed i=true:=by kernel_rfl)(hr:(Region.ready md ops listed).contains i=true:=by kernel_rfl)
  (hQ:∀v c a w,Q (.panic c) (a.put oi.dst v) w->Q (.panic c) a w:=by first|exact fun _ _ _ _ h=>h|exact fun _ _ _ _ h=>nomatch h.1)(hw:Region.wanted oi (yielded ops a.tmps)=true:=by rfl)
  (h1:∀W,S W->(execOp a.eval oi).run P W= .ok (.value v) W)(h:wpAnyH P md ops Q S fuel (listed.setIfInBounds i true) (a.put oi.dst v) w):wpAnyH P md ops Q S (fuel+1) listed a w:=
 wpAnyH_take hi hs hf hr (hQ v) (Or.inl ⟨hw,h1⟩) hS h
theorem tkS{i:Nat}(hS:S w)(hi:ops[i]? =some oi:=by rfl)
  (hs:Region.noSelect ops=true:=by kernel_rfl)(hf:Region.free md ops listed i=true:=by kernel_rfl)(hr:(Region.ready md ops listed).contains i=true:=by kernel_rfl)
  (hQ:∀v c a w,Q (.panic c) (a.put oi.dst v) w->Q (.panic c) a w:=by first|exact fun _ _ _ _ h=>h|exact fun _ _ _ _ h=>nomatch h.1)(hw:Region.wanted oi (yielded ops a.tmps)=false:=by rfl)
  (h:TK is (wpAnyH P md ops Q S fuel (listed.setIfInBounds i true) (a.put oi.dst undef) w)):TK (i::is) (wpAnyH P md ops Q S (fuel+1) listed a w):=
 wpAnyH_take hi hs hf hr (hQ undef) (Or.inr ⟨hw,rfl⟩) hS h
theorem rdy(i:Nat)(hr:Region.ready md ops listed=[i]:=by kernel_rfl)(hi:ops[i]? =some oi:=by rfl)
  (h:∀K':Act->World->Prop,Shut (∀a w,S w->(S w->wpAnyH P md ops Q S fuel (listed.setIfInBounds i true) a w)->K' a w)->if Region.wanted oi (yielded ops a.tmps)=true then Oper.wp P oi a w K' Q else K' (a.put oi.dst undef) w):wpAnyH P md ops Q S (fuel+1) listed a w:=
 wpAnyH_ready hr (by simp) (AllReadyH.cons hi h AllReadyH.nil)
end
end Go.Proofs.YtdfkaijeppdhaaaGreatDoor
namespace Go.Proofs.YtdfkaijeppdhaaaGreatDoor
abbrev Ent:=Int×Int×Int×ByteArray
def a04(e:Ent):Int:=e.1
def anv(e:Ent):Int:=e.2.1
def ano(e:Ent):Int:=e.2.2.1
def a06(e:Ent):ByteArray:=e.2.2.2
def eLt(a b:Ent):Prop:=ano a<ano b\/(ano a=ano b/\a04 a<a04 b)
def eLe(a b:Ent):Prop:=ano a<ano b\/(ano a=ano b/\a04 a<=a04 b)
instance(a b:Ent):Decidable (eLt a b):=inferInstanceAs (Decidable (_\/_))
instance(a b:Ent):Decidable (eLe a b):=inferInstanceAs (Decidable (_\/_))
def aom(a b:Ent):Int:=if eLt a b then-1 else if eLt b a then 1 else 0
theorem aab{a b c:Ent}(h:eLt a b)(k:eLt b c):eLt a c:=by unfold eLt at *;omega
theorem aer(a:Ent):¬eLt a a:=by unfold eLt;omega
theorem agi{a b:Ent}(h:eLt a b):¬eLt b a:=by unfold eLt at *;omega
theorem agj(a b:Ent):eLt a b\/eLt b a\/(ano a=ano b/\a04 a=a04 b):=by unfold eLt;omega
def aos(e:Ent):List Ent->List Ent
 |[]=>[e]
 |x::r=>if eLt e x then e::x::r else x::aos e r
def aoy:List Ent->List Ent
 |[]=>[]
 |e::r=>aos e (aoy r)
def Asc(l:List Ent):Prop:=l.Pairwise eLt
theorem a6k(e:Ent):∀l,(aos e l).Perm (e::l)
 |[]=>.refl _
 |x::r=>by
  unfold aos;split
  ·exact .refl _
  exact((a6k e r).cons x).trans (.swap _ _ _)
theorem a3c:∀l,(aoy l).Perm l
 |[]=>.refl _
 |e::r=>(a6k e _).trans ((a3c r).cons e)
theorem srtE_mem{l:List Ent}{e:Ent}:e∈aoy l↔e∈l:=(a3c l).mem_iff
def aod(l:List Ent):Prop:=l.Pairwise fun a b=>¬(ano a=ano b/\a04 a=a04 b)
theorem abu{e:Ent}:∀{l:List Ent},Asc l->(∀x∈l,¬(ano e=ano x/\a04 e=a04 x))->Asc (aos e l)
 |[],_,_=>by simp[aos,Asc]
 | x::r,h,hk=>by
  unfold aos;have hx:=amr.1 h;split
  ·rename_i hlt
   exact amr.2 ⟨fun y hy=>by
    rcases alI.1 hy with rfl|hy
    ·exact hlt
    exact aab hlt (hx.1 y hy),h⟩
  rename_i hnlt
  refine amr.2 ⟨fun y hy=>?_,abu hx.2 (fun z hz=>hk z (by simp[hz]))⟩;rcases alI.1 ((a6k e r).mem_iff.1 hy)with rfl|hy
  ·rcases agj y x with h1|h1|h1
   ·exact absurd h1 hnlt
   ·exact h1
   exact absurd h1 (hk x (by simp))
  exact hx.1 y hy
theorem a7U:∀{l:List Ent},aod l->Asc (aoy l)
 |[],_=>List.Pairwise.nil
 |e::r,h=>by
  have hx:=amr.1 h;exact abu (a7U hx.2) (fun x hx2=>hx.1 x (srtE_mem.1 hx2))
theorem a5z:∀{l m:List Ent},Asc l->Asc m->l.Perm m->l=m
 |[],m,_,_,hp=>(List.nil_perm.1 hp).symm▸rfl
 |a::l,[],_,_,hp=>by simpa using hp.length_eq
 | a::l,b::m,hl,hm,hp=>by
  have h1:=amr.1 hl;have h2:=amr.1 hm
  have hab:a=b:=by
   rcases alI.1 (hp.mem_iff.1 (List.mem_cons_self))with h|h
   ·exact h
   rcases alI.1 (hp.mem_iff.2 (List.mem_cons_self (a:=b)))with k|k
   ·exact k.symm
   exact absurd (h2.1 a h) (agi (h1.1 b k))
  subst hab;rw[a5z h1.2 h2.2 (List.Perm.cons_inv hp)]
theorem a7x{l m:List Ent}(hm:Asc m)(hk:aod l)(hp:m.Perm l):m=aoy l:=a5z hm (a7U hk) (hp.trans (a3c l).symm)
abbrev anl:=Nat->List Ent
def anO:anl:=fun _=>[]
def aoz(b:anl)(i:Nat)(l:List Ent):anl:=fun j=>if j=i then l else b j
theorem a3d(b:anl)(i:Nat)(l:List Ent):aoz b i l i=l:=by simp[aoz]
theorem a2N(b:anl){i j:Nat}(l:List Ent)(h:j≠i):aoz b i l j=b j:=by simp[aoz,h]
def a3n(s:ByteArray):Bool:=decide (s.size<=60)&&s.data.toList.all fun c=>decide (32<=c.toNat)&&decide (c.toNat<=126)
structure ListOk(i:Nat)(l:List Ent):Prop where
 len:l.length<=60
 own:∀j (h:j<l.length),a04 l[j]=i/\anv l[j]=j+1/\1<=ano l[j]/\ano l[j]<=1000000/\a3n (a06 l[j])=true
 asc:l.Pairwise fun a b=>ano a<ano b
def a02(b:anl):Prop:=∀i,i<4->ListOk i (b i)
theorem aes(i:Nat):ListOk i []:=⟨by simp,fun j h=>by simp at h,List.Pairwise.nil⟩
theorem a3w:a02 anO:=fun i _=>aes i
theorem ListOk.take{i:Nat}{l:List Ent}(h:ListOk i l)(k:Nat):ListOk i (l.take k):=
 ⟨by have:=h.len;rw[alL];omega,fun j hj=>by
  have hj2:j<l.length:=by rw[alL]at hj;omega
  rw[List.getElem_take];exact h.own j hj2,h.asc.sublist (List.take_sublist k l)⟩
theorem ListOk.front{i:Nat}{l m:List Ent}(h:ListOk i l)(hp:m<+:l):ListOk i m:=by
 rw[amx.1 hp];exact h.take _
def a1s(b:anl)(seen:Nat->Int)(i:Nat):List Ent:=(b i).drop (min (max 0 (seen i)) (b i).length).toNat
def anY(b:anl)(seen:Nat->Int):List Ent:=a1s b seen 0++(a1s b seen 1++(a1s b seen 2++a1s b seen 3))
def a2y(b:anl)(seen:Nat->Int):List Ent:=aoy (anY b seen)
def ann(b:anl):List Ent:=a2y b fun _=>0
theorem ListOk.mem{i:Nat}{l:List Ent}(h:ListOk i l){e:Ent}(he:e∈l):a04 e=i/\1<=ano e/\ano e<=1000000/\a3n (a06 e)=true:=by
 obtain⟨j,hj,rfl⟩:=ami he;obtain⟨h1,_,h3,h4,h5⟩:=h.own j hj;exact⟨h1,h3,h4,h5⟩
theorem agk{b:anl}{seen:Nat->Int}{i:Nat}{e:Ent}(h:e∈a1s b seen i):e∈b i:=anf h
theorem a4c{b:anl}{seen:Nat->Int}{i:Nat}(h:ListOk i (b i)):aod (a1s b seen i):=
 (h.asc.sublist (List.drop_sublist _ _)).imp fun hlt hk=>by omega
theorem a58{l m:List Ent}(h1:aod l)(h2:aod m)(h3:∀a∈l,∀c∈m,a04 a≠a04 c):aod (l++m):=
 amW.2 ⟨h1,h2,fun a ha c hc hk=>h3 a ha c hc hk.2⟩
theorem a6l{b:anl}(hb:a02 b)(seen:Nat->Int):aod (anY b seen):=by
 have hm:∀i,i<4->∀e∈a1s b seen i,a04 e=i:=fun i hi e he=>((hb i hi).mem (agk he)).1
 refine a58 (a4c (hb 0 (by omega))) (a58 (a4c (hb 1 (by omega))) (a58 (a4c (hb 2 (by omega))) (a4c (hb 3 (by omega))) ?_) ?_) ?_
 ·intro a ha c hc;rw[hm 2 (by omega) a ha,hm 3 (by omega) c hc];omega
 ·intro a ha c hc;rw[hm 1 (by omega) a ha];rcases alU.1 hc with hc|hc
  ·rw[hm 2 (by omega) c hc];omega
  rw[hm 3 (by omega) c hc];omega
 intro a ha c hc;rw[hm 0 (by omega) a ha];rcases alU.1 hc with hc|hc
 ·rw[hm 1 (by omega) c hc];omega
 rcases alU.1 hc with hc|hc
 ·rw[hm 2 (by omega) c hc];omega
 rw[hm 3 (by omega) c hc];omega
theorem aet{b:anl}(hb:a02 b)(seen:Nat->Int):Asc (a2y b seen):=a7U (a6l hb seen)
def a0m(l:List Ent):Int:=match l.getLast? with
 |none=>0
 |some e=>ano e
def anF(b:anl):Int:=max (max (max (max 0 (a0m (b 0))) (a0m (b 1))) (a0m (b 2))) (a0m (b 3))
def a0N(l m:List Ent):List Ent:=if m.length<l.length then l else m
def anx(l m:List Ent):Bool:=decide (l<+:m)||decide (m<+:l)
def a2v(b o:anl):Option anl:=if (anx (b 0) (o 0)&&anx (b 1) (o 1)&&anx (b 2) (o 2)&&anx (b 3) (o 3))=true then some (fun i=>a0N (b i) (o i))else none
end Go.Proofs.YtdfkaijeppdhaaaGreatDoor
namespace Go.Proofs.YtdfkaijeppdhaaaGreatDoor
open Go.RowKit
theorem keep_cell{w w':World}(hb:Below w.heap.size w w'){a:Addr}{v:Value}(h:w.cell? a=some v):w'.cell? a=some v:=
 (hb.cell (World.block_lt_of_cell? _ _ h)).trans h
theorem heap_cell{X:World}{b j:Nat}{A:Array Value}{T:TypeId}{fr:Nat×Nat}{v:Value}(h:X.heap[b]? =some (.cells A T fr))(hj:A[j]? =some v):X.cell? ⟨b,j,none⟩=some v:=by
 simp[World.cell?,h,hj]
structure Off(F:List Nat)(w w':World):Prop where
 os:w'.os=w.os
 tape:w'.tape=w.tape
 output:w'.output=w.output
 size:w.heap.size<=w'.heap.size
 block:∀k,k<w.heap.size->k∉F->w'.heap[k]? =w.heap[k]?
theorem Off.refl(F:List Nat)(w:World):Off F w w:=⟨rfl,rfl,rfl,aly _,fun _ _ _=>rfl⟩
theorem Off.mono{F G:List Nat}{w w':World}(h:Off F w w')(hs:∀k,k∈F->k∈G\/w.heap.size<=k):Off G w w':=
 ⟨h.os,h.tape,h.output,h.size,fun k h1 h2=>h.block k h1 fun h3=>(hs k h3).elim h2 (fun h4=>by omega)⟩
theorem Off.trans{F:List Nat}{a b c:World}(h:Off F a b)(k:Off F b c):Off F a c:=
 ⟨k.os.trans h.os,k.tape.trans h.tape,k.output.trans h.output,alF h.size k.size,fun i h1 h2=>(k.block i (alJ h1 h.size) h2).trans (h.block i h1 h2)⟩
theorem Off.of_below{F:List Nat}{w w':World}(h:Below w.heap.size w w'):Off F w w':=⟨h.os,h.tape,h.output,h.size,fun k h1 _=>h.block k h1⟩
theorem Off.below{F:List Nat}{w w':World}(h:Off F w w'){n:Nat}(hn:n<=w.heap.size)(hF:∀k∈F,n<=k):Below n w w':=
 ⟨h.os,h.tape,h.output,h.size,fun k hk=>h.block k (by omega) fun h2=>by have:=hF k h2;omega⟩
def anH(e:Ent):List Value:=[.int .i64 (a04 e),.int .i64 (anv e),.int .i64 (ano e),.string (a06 e)]
def anu(l:List Ent):List Value:=l.flatMap anH
theorem a0T(l:List Ent):(anu l).length=l.length * 4:=by
 induction l with
 |nil=>rfl
 |cons e l ih=>simp only[anu,List.flatMap_cons,alA]at ih⊢;rw[ih];simp[anH];omega
theorem a1C(l m:List Ent):anu (l++m)=anu l++anu m:=by simp[anu]
theorem a2o:∀(l:List Ent) (j c:Nat) (h:j<l.length),c<4->(anu l)[j * 4+c]? =(anH l[j])[c]?
 |e::l,0,c,_,hc=>by
  simp only[anu,List.flatMap_cons,Nat.zero_mul,amg,am1];rw[amE (by simpa [anH]using hc)]
 |e::l,j+1,c,h,hc=>by
  have h2:j<l.length:=by simpa using h
  have:=a2o l j c h2 hc;simp only[anu,List.flatMap_cons,amn]at this⊢;rw[am9 (by simp[anH];omega),<-this];congr 1;simp[anH];omega
def anV(e:Ent):Value:=.agg #[.int .i64 (a04 e),.int .i64 (anv e),.int .i64 (ano e),.string (a06 e)]
def EntsAt(w:World)(v:Value)(l:List Ent):Prop:=
 ∃(a:Option Addr) (cap:Nat),v= .slice a l.length cap/\l.length<=9223372036854775807/\
  (0<l.length->∃b off,a=some ⟨b,off,none⟩/\∀j c x,c<4->(anu l)[j * 4+c]? =some x->w.cell? ⟨b,off+j * 4+c,none⟩=some x)
theorem EntsAt.below{w w':World}{v:Value}{l:List Ent}(h:EntsAt w v l)(hb:Below w.heap.size w w'):EntsAt w' v l:=by
 obtain⟨a,cap,rfl,hl,h⟩:=h;refine⟨a,cap,rfl,hl,fun h0=>?_⟩;obtain⟨b,off,ha,hc⟩:=h h0;exact⟨b,off,ha,fun j c x hcc hx=>keep_cell hb (hc j c x hcc hx)⟩
def ListAt(w:World)(v:Value)(l:List Ent):Prop:=w.ownsRow 0 43 4 v l.length (anu l)
theorem ListAt.ents{w:World}{v:Value}{l:List Ent}(h:ListAt w v l)(hl:l.length<=9223372036854775807):EntsAt w v l:=by
 have hx:=h.1;rcases h.2 with⟨rfl,h0⟩|⟨g,cap,cur,rfl,hrest⟩
 ·exact⟨none,0,by rw[h0],hl,fun h1=>by omega⟩
 refine⟨some ⟨g,0,none⟩,cap,rfl,hl,fun _=>⟨g,0,rfl,fun j c x _ hx2=>?_⟩⟩;have hlt:j * 4+c<(anu l).length:=(amu.1 hx2).1
 have:=h.cellAt (j * 4+c) (by rw[a0T]at hlt;omega);rw[amg,this,hx2]
theorem ListAt.keep{w w':World}{v:Value}{l:List Ent}(h:ListAt w v l)(hk:∀k,v.ownBlock=some k->w'.heap[k]? =w.heap[k]?):ListAt w' v l:=by
 refine⟨h.1,?_⟩;rcases h.2 with hn|⟨g,cap,cur,rfl,hbg,hg,hrest⟩
 ·exact .inl hn
 exact .inr ⟨g,cap,cur,rfl,hbg,(hk g rfl).trans hg,hrest⟩
theorem ListAt.lt{w:World}{v:Value}{l:List Ent}(h:ListAt w v l){k:Nat}(hk:v.ownBlock=some k):k<w.heap.size:=by
 rcases h.2 with⟨rfl,_⟩|⟨g,cap,cur,rfl,_,hg,_⟩
 ·simp[Value.ownBlock]at hk
 obtain rfl:g=k:=by simpa [Value.ownBlock]using hk
 exact(alx.1 hg).1
def anW(v0 v1 v2 v3:Value):List Nat:=v0.ownBlock.toList++(v1.ownBlock.toList++(v2.ownBlock.toList++v3.ownBlock.toList))
def BookAt(w:World)(K:Nat)(F:List Nat)(b:anl):Prop:=
 ∃v0 v1 v2 v3:Value,w.heap[K]? =some (.cells #[v0,v1,v2,v3] 96 (0,0))/\ListAt w v0 (b 0)/\ListAt w v1 (b 1)/\ListAt w v2 (b 2)/\ListAt w v3 (b 3)/\F=anW v0 v1 v2 v3/\F.Nodup
theorem BookAt.lt{w:World}{K:Nat}{F:List Nat}{b:anl}(h:BookAt w K F b){k:Nat}(hk:k∈F):k<w.heap.size:=by
 obtain⟨v0,v1,v2,v3,_,h0,h1,h2,h3,rfl,_⟩:=h;simp only[anW,alU,Option.mem_toList]at hk;rcases hk with hk|hk|hk|hk
 ·exact h0.lt hk
 ·exact h1.lt hk
 ·exact h2.lt hk
 exact h3.lt hk
theorem BookAt.keep{w w':World}{K:Nat}{F:List Nat}{b:anl}(h:BookAt w K F b)(hk:∀k,k=K\/k∈F->w'.heap[k]? =w.heap[k]?):BookAt w' K F b:=by
 obtain⟨v0,v1,v2,v3,hK,h0,h1,h2,h3,rfl,hn⟩:=h
 exact⟨v0,v1,v2,v3,(hk K (.inl rfl)).trans hK,h0.keep (fun k e=>hk k (.inr (by simp[anW,e]))),h1.keep (fun k e=>hk k (.inr (by simp[anW,e]))),
  h2.keep (fun k e=>hk k (.inr (by simp[anW,e]))),h3.keep (fun k e=>hk k (.inr (by simp[anW,e]))),rfl,hn⟩
def PostAt(w:World)(P:Nat)(F:List Nat)(n:Nat)(b:anl):Prop:=
 ∃(K:Nat) (G:List Nat),w.heap[P]? =some (.cells #[.pointer (some ⟨K,0,none⟩),.int .i64 n] 81 (0,0))/\BookAt w K G b/\F=P::K::G
theorem PostAt.keep{w w':World}{P n:Nat}{F:List Nat}{b:anl}(h:PostAt w P F n b)(hk:∀k∈F,w'.heap[k]? =w.heap[k]?):PostAt w' P F n b:=by
 obtain⟨K,G,hP,hB,rfl⟩:=h;exact⟨K,G,(hk P (by simp)).trans hP,hB.keep (fun k hk2=>hk k (by rcases hk2 with rfl|h<;>simp[*])),rfl⟩
theorem PostAt.lt{w:World}{P n:Nat}{F:List Nat}{b:anl}(h:PostAt w P F n b){k:Nat}(hk:k∈F):k<w.heap.size:=by
 obtain⟨K,G,hP,hB,rfl⟩:=h;rcases alI.1 hk with rfl|hk
 ·exact(alx.1 hP).1
 rcases alI.1 hk with rfl|hk
 ·obtain⟨_,_,_,_,hK,_⟩:=hB;exact(alx.1 hK).1
 exact hB.lt hk
theorem PostAt.off{w w':World}{P n:Nat}{F G:List Nat}{b:anl}(h:PostAt w P F n b)(ho:Off G w w')(hd:∀k∈F,k∉G):PostAt w' P F n b:=
 h.keep fun k hk=>ho.block k (h.lt hk) (hd k hk)
theorem PostAt.below{w w':World}{P n:Nat}{F:List Nat}{b:anl}(h:PostAt w P F n b)(hb:Below w.heap.size w w'):PostAt w' P F n b:=
 h.keep fun k hk=>hb.block k (h.lt hk)
end Go.Proofs.YtdfkaijeppdhaaaGreatDoor
namespace Go.Proofs.YtdfkaijeppdhaaaGreatDoor
open Go
def betw(a b c:Int):Bool:=decide (a<=b)&&decide (b<=c)
theorem betw_iff(a b c:Int):betw a b c=true↔a<=b/\b<=c:=by simp[betw]
theorem a7r(a b c:Int):betw a b c=false↔b<a\/c<b:=by rw[<-Bool.not_eq_true,betw_iff];omega
def a17(r:Nat):Bool:=decide ((r:Int)<32)||decide (126<(r:Int))
def a11(r:Nat):Bool:=decide ((r:Int)<97)||decide (122<(r:Int))
def a0j(s:ByteArray):Bool:=decide (s.size<=60)&& !(s.data.toList.any fun c=>a17 c.toNat)
def a01(s:ByteArray):Bool:=betw 1 s.size 8&& !(s.data.toList.any fun c=>a11 c.toNat)
theorem ba_ext{s t:ByteArray}(h:s.data.toList=t.data.toList):s=t:=by
 cases s;cases t
 simp only[ByteArray.mk.injEq];exact Array.toList_inj.1 h
def bsB(l:List UInt8):ByteArray:=⟨l.toArray⟩
theorem a1b(l:List UInt8):(bsB l).data.toList=l:=rfl
theorem a3W(s:ByteArray):bsB s.data.toList=s:=ba_ext rfl
theorem adN{l m:List UInt8}(h:bsB l=bsB m):l=m:=by rw[<-a1b l,h];rfl
theorem ba_take(s:ByteArray)(i:Nat):s.extract 0 i=bsB (s.data.toList.take i):=by
 apply ba_ext;simp[ByteArray.data_extract,bsB]
theorem ba_drop(s:ByteArray)(i:Nat):s.extract i s.size=bsB (s.data.toList.drop i):=by
 apply ba_ext;simp only[ByteArray.data_extract,Array.toList_extract,List.extract_eq_take_drop,bsB];rw[alG];simp
def itoaB(n:Int):ByteArray:=⟨(Lib.itoa n).toArray⟩
def a0c(c:UInt8):Nat->List UInt8->List (List UInt8)
 |_,[]=>[[]]
 |0,l=>[l]
 |k+1,b::r=>if b==c then []::a0c c k r else match a0c c (k+1) r with
  |[]=>[[b]]
  |x::xs=>(b::x)::xs
theorem a4G(c:UInt8)(k:Nat)(l:List UInt8):a0c c k l≠[]:=by
 cases l with
 |nil=>cases k<;>simp[a0c]
 | cons b r=>
  cases k with
  |zero=>simp[a0c]
  |succ k=>
   unfold a0c;split
   ·simp
   split<;>simp
theorem a12(c:UInt8)(l:List UInt8):a0c c 0 l=[l]:=by cases l<;>rfl
theorem a3o(c:UInt8)(k:Nat):∀l:List UInt8,(Lib.indexByte l c= -1/\a0c c (k+1) l=[l])\/(∃i:Nat,Lib.indexByte l c=i/\i<l.length/\a0c c (k+1) l=l.take i::a0c c k (l.drop (i+1)))
 |[]=>.inl ⟨rfl,rfl⟩
 | b::r=>by
  by_cases h:b=c
  ·subst h;exact .inr ⟨0,by simp[Lib.indexByte],by simp,by simp[a0c]⟩
  have hb:(b==c)=false:=by simpa using h
  rcases a3o c k r with⟨h1,h2⟩|⟨i,h1,h2,h3⟩
  ·exact .inl ⟨by simp[Lib.indexByte,hb,h1],by simp[a0c,hb,h2]⟩
  refine .inr ⟨i+1,?_,by simp[h2],?_⟩
  ·unfold Lib.indexByte;rw[hb,h1];have:((i:Int)== -1)=false:=by simp
   simp[this]
  rw[show a0c c (k+1) (b::r)=match a0c c (k+1) r with|[]=>[[b]]|x::xs=>(b::x)::xs by simp[a0c,hb],h3];simp
def a1c(c:UInt8)(k:Nat)(s:ByteArray):List ByteArray:=(a0c c k s.data.toList).map bsB
theorem agl(c:UInt8)(k:Nat)(s:ByteArray):a1c c k s≠[]:=fun h=>a4G c k s.data.toList (amO.1 h)
theorem a6m(c:UInt8):∀(k:Nat) (s:ByteArray),Lib.splitB ⟨#[c]⟩ 0 k s=a1c c k s
 |0,s=>by unfold a1c;rw[a12];simp[Lib.splitB,a3W]
 |k+1,s=>by
  have hi:Lib.indexB s ⟨#[c]⟩=Lib.indexByte s.data.toList c:=Lib.index_one _ _;unfold a1c;rcases a3o c k s.data.toList with⟨h1,h2⟩|⟨i,h1,h2,h3⟩
  ·rw[Lib.splitB_miss _ _ _ _ (hi.trans h1),h2];simp[a3W]
  rw[Lib.splitB_hit _ _ _ _ i (hi.trans h1),h3,alW,a6m c k,amX,ba_take,show (⟨#[c]⟩:ByteArray).size=1 from rfl,ba_drop];rfl
theorem aac(c:UInt8):∀(f:Nat) (l:List UInt8),l.length<f->Lib.countFrom [c] f l=l.count c
 |0,l,h=>by omega
 | f +1,l,h=>by
  unfold Lib.countFrom;rw[Lib.index_one];rcases a3o c 0 l with⟨h1,h2⟩|⟨i,h1,h2,h3⟩
  ·rw [h1]
   have hn:c∉l:=fun hm=>by
    clear h h2;induction l with
    |nil=>simp at hm
    | cons b r ih=>
     unfold Lib.indexByte at h1;split at h1
     ·simp at h1
     rename_i hb
     split at h1
     ·rename_i hr
      rcases alI.1 hm with rfl|hm
      ·simp at hb
      exact ih (by simpa using hr) hm
     have:=Lib.indexByte_ge r c;omega
   rw[List.count_eq_zero.2 hn];rfl
  rw[h1];have hne:((i:Int)== -1)=false:=by simp
  have hsp:l=l.take i++(c::l.drop (i+1)):=by
   have hget:l[i]'h2=c/\c∉l.take i:=by
    clear h hne h3;induction l generalizing i with
    |nil=>simp at h2
    | cons b r ih=>
     unfold Lib.indexByte at h1;split at h1
     ·rename_i hb
      have:i=0:=by omega
      subst this;simp at hb⊢;exact hb
     rename_i hb
     split at h1
     ·omega
     rename_i hr
     have hr':Lib.indexByte r c≠ -1:=by simpa using hr
     obtain⟨j,rfl⟩:∃j,i=j+1:=⟨i-1,by have:=Lib.indexByte_ge r c;omega⟩
     have:=ih j (by omega) (by simpa using h2);refine⟨by simpa using this.1,?_⟩;simp only[List.take_succ_cons,alI,not_or];exact⟨fun e=>hb (by simp[e]),this.2⟩
   conv=>lhs;rw[<-amt i l]
   rw[am3 h2,hget.1]
  have hnt:(l.take i).count c=0:=by
   refine List.count_eq_zero.2 fun hm=>?_;clear h hne h3 hsp;induction l generalizing i with
   |nil=>simp at h2
   | cons b r ih=>
    unfold Lib.indexByte at h1;split at h1
    ·have:i=0:=by omega
     subst this;simp at hm
    rename_i hb
    split at h1
    ·omega
    rename_i hr
    have hr':Lib.indexByte r c≠ -1:=by simpa using hr
    obtain⟨j,rfl⟩:∃j,i=j+1:=⟨i-1,by have:=Lib.indexByte_ge r c;omega⟩
    rw[List.take_succ_cons,alI]at hm;rcases hm with rfl|hm
    ·simp at hb
    exact ih j (by omega) (by simpa using h2) hm
  rw[hne];simp only[Bool.false_eq_true,if_false,amo,alB,alH,amg];rw[aac c f _ (by rw[alS];omega)];conv=>rhs;rw[hsp]
  rw[List.count_append,hnt,List.count_cons_self];omega
theorem a8p(s:ByteArray)(c:UInt8):Lib.countB s ⟨#[c]⟩=s.data.toList.count c:=aac c _ _ (am2 _)
def splitA(c:UInt8)(s:ByteArray):List ByteArray:=a1c c (s.data.toList.count c) s
theorem aeu(s:ByteArray)(c:UInt8):Lib.splitB ⟨#[c]⟩ 0 (Lib.countB s ⟨#[c]⟩) s=splitA c s:=by rw[a8p,a6m];rfl
theorem a5A(c:UInt8):∀l:List UInt8,(a0c c (l.count c) l).length=l.count c+1
 |[]=>rfl
 | b::r=>by
  by_cases hb:b=c
  ·subst hb;rw[List.count_cons_self];simp only[a0c,BEq.rfl,if_true,alB];rw[a5A b r]
  have hbc:(b==c)=false:=by simpa using hb
  rw[List.count_cons_of_ne hb];have ih:=a5A c r;cases h0:r.count c with
  |zero=>rw[a12];rfl
  |succ m=>
   rw[h0]at ih;simp only[a0c,hbc,Bool.false_eq_true,if_false];generalize a0c c (m+1) r=q at *;cases q with
   |nil=>simp at ih
   |cons x xs=>simpa using ih
theorem splitA_len(c:UInt8)(s:ByteArray):(splitA c s).length=s.data.toList.count c+1:=by unfold splitA a1c;rw[alN,a5A]
theorem aad(c:UInt8)(s:ByteArray):splitA c s≠[]:=agl _ _ _
theorem a3L(c:UInt8):∀(l:List UInt8) (k:Nat),Lib.join (a0c c k l) [c]=l
 |[],k=>by cases k<;>rfl
 |b::r,0=>by rw[a12,Lib.join_one]
 | b::r,k+1=>by
  by_cases hb:b=c
  ·subst hb;simp only[a0c,BEq.rfl,if_true];have ih:=a3L b r k;rw[Lib.join_cons];cases hq:a0c b k r with
   |nil=>exact absurd hq (a4G _ _ _)
   |cons x xs=>
    rw[hq,Lib.join_cons]at ih;simp only[Lib.joinTail,alW,List.flatten_cons,alY,alM]at ih⊢;rw[ih]
  have hbc:(b==c)=false:=by simpa using hb
  have ih:=a3L c r (k+1);simp only[a0c,hbc,Bool.false_eq_true,if_false];cases hq:a0c c (k+1) r with
  |nil=>exact absurd hq (a4G _ _ _)
  |cons x xs=>
   rw[hq,Lib.join_cons]at ih;rw[Lib.join_cons,alM,ih]
theorem ad1(c:UInt8)(k:Nat)(l x:List UInt8)(xs:List (List UInt8))(h:a0c c k l=x::xs)(hx:xs≠[]):l=x++c::Lib.join xs [c]:=by
 have:=a3L c l k;rw[h,Lib.join_cons]at this;obtain⟨y,ys,rfl⟩:∃y ys,xs=y::ys:=by cases xs with|nil=>exact absurd rfl hx|cons y ys=>exact⟨y,ys,rfl⟩
 rw[<-this,Lib.join_cons];simp[Lib.joinTail]
end Go.Proofs.YtdfkaijeppdhaaaGreatDoor
namespace Go.Proofs.YtdfkaijeppdhaaaGreatDoor
open Go
def noE:Ent:=(0,0,0,⟨#[]⟩)
def emp:ByteArray:=⟨#[]⟩
theorem a1H(u:Nat):∀x∈Lib.decDigits u,48<=x.toNat/\x.toNat<=57:=by
 induction u using Nat.strongRecOn with
 | _ u ih=>
  intro x hx;rw[Lib.decDigits]at hx
  have one:∀d,d<10->48<=(UInt8.ofNat (48+d)).toNat/\(UInt8.ofNat (48+d)).toNat<=57:=fun d hd=>by
   rw[UInt8.toNat_ofNat'];omega
  split at hx
  ·rename_i h
   have:x=UInt8.ofNat (48+u):=by simpa using hx
   rw[this];exact one u h
  rename_i h
  rcases alU.1 hx with hx|hx
  ·exact ih (u / 10) (by omega) x hx
  have:x=UInt8.ofNat (48+u % 10):=by simpa using hx
  rw[this];exact one (u % 10) (by omega)
theorem a6n(n:Int):∀x∈Lib.itoa n,x.toNat=45\/48<=x.toNat/\x.toNat<=57:=by
 intro x hx;unfold Lib.itoa at hx;split at hx
 ·rcases alI.1 hx with rfl|hx
  ·exact .inl rfl
  exact .inr (a1H _ x hx)
 exact .inr (a1H _ x hx)
theorem nDigits_le:∀(k u:Nat),u<10^(k+1)->Lib.nDigits u<=k+1
 |0,u,h=>by rw[Lib.nDigits_small (by simpa using h)];exact aly _
 |k+1,u,h=>by
  by_cases h1:u<10
  ·rw[Lib.nDigits_small h1];omega
  rw[Lib.nDigits_big h1];have:=nDigits_le k (u / 10) (by rw[Nat.pow_succ]at h;omega);omega
theorem agm{n:Int}(h0: -9999<=n)(h1:n<=9999):(Lib.itoa n).length<=5:=by
 unfold Lib.itoa;split
 ·rw[alB,Lib.decDigits_length];have:=nDigits_le 3 n.natAbs (by omega);omega
 rw[Lib.decDigits_length];have:=nDigits_le 3 n.toNat (by omega);omega
theorem itoa_len{n:Int}(h0: -1000000000<=n)(h1:n<=1000000000):(Lib.itoa n).length<=11:=by
 unfold Lib.itoa;split
 ·rw[alB,Lib.decDigits_length];have:=nDigits_le 9 n.natAbs (by omega);omega
 rw[Lib.decDigits_length];have:=nDigits_le 9 n.toNat (by omega);omega
theorem a2z(u:Nat):Lib.decDigits u≠[]:=by
 intro h;have:=Lib.decDigits_length u;rw[h]at this;have:=Lib.nDigits_pos u;simp at *;omega
def anp(s:ByteArray):Option Int:=match Lib.atoiAll s.data.toList with
 | .ok v=>if decide (itoaB v=s)&&betw (-9999) v 9999 then some v else none
 |_=>none
theorem a3e{s:ByteArray}{v:Int}(h:anp s=some v):s=itoaB v/\ -9999<=v/\v<=9999:=by
 unfold anp at h;split at h
 ·split at h
  ·rename_i hc
   rw[Bool.and_eq_true,decide_eq_true_eq,betw_iff]at hc;simp only[Option.some.injEq]at h;subst h;exact⟨hc.1.symm,hc.2⟩
  cases h
 cases h
def allS{α β:Type}(f:α->Option β):List α->Option (List β)
 |[]=>some []
 |x::xs=>match f x,allS f xs with
  |some y,some ys=>some (y::ys)
  |_,_=>none
theorem allS_snoc{α β:Type}(f:α->Option β)(xs:List α)(x:α):allS f (xs++[x])=match allS f xs,f x with
  |some ys,some y=>some (ys++[y])
  |_,_=>none:=by
 induction xs with
 |nil=>simp only[alY,allS];cases f x<;>rfl
 |cons z zs ih=>
  rw[alM,allS,ih];cases h1:f z<;>cases h2:allS f zs<;>cases h3:f x<;>simp[allS,h1,h2]
theorem allS_bad{α β:Type}(f:α->Option β)(xs:List α){x:α}(hx:x∈xs)(h:f x=none):allS f xs=none:=by
 induction xs with
 |nil=>simp at hx
 |cons z zs ih=>
  rcases alI.1 hx with rfl|hx
  ·simp[allS,h]
  rw[allS,ih hx];cases f z<;>rfl
theorem allS_len{α β:Type}(f:α->Option β):∀(xs:List α) (ys:List β),allS f xs=some ys->ys.length=xs.length
 |[],ys,h=>by simp only[allS,Option.some.injEq]at h;subst h;rfl
 |x::xs,ys,h=>by
  rw[allS]at h;cases h1:f x<;>cases h2:allS f xs<;>simp[h1,h2]at h
  subst h;simp[allS_len f xs _ h2]
def a0k(l:List ByteArray):ByteArray:=bsB (Lib.join (l.map (·.data.toList)) [32])
inductive Cmd where
 |put (name text:ByteArray)
 |drop (name:ByteArray)
 |add (name:ByteArray) (n:Int)
 |stock (name:ByteArray)
 |share (n:Int) (names:List ByteArray)
 |asked (k:Nat) (names:List ByteArray) (ns:List Int)
def Cmd.deed:Cmd->Bool
 | .put .. =>true
 | .drop .. =>true
 | .add .. =>true
 |_=>false
def putW:ByteArray:=⟨#[112,117,116]⟩
def dropW:ByteArray:=⟨#[100,114,111,112]⟩
def stockW:ByteArray:=⟨#[115,116,111,99,107]⟩
def addW:ByteArray:=⟨#[97,100,100]⟩
def shareW:ByteArray:=⟨#[115,104,97,114,101]⟩
def textW:ByteArray:=⟨#[116,101,120,116]⟩
def beatW:ByteArray:=⟨#[98,101,97,116]⟩
def farW:ByteArray:=⟨#[102,97,114]⟩
def driftW:ByteArray:=⟨#[100,114,105,102,116]⟩
def a2O(w:ByteArray):Option (Nat×Nat×Nat):=
 if w=textW then some (0,1,0)else if w=beatW then some (1,1,0)else if w=farW then some (2,2,0)else if w=driftW then some (3,1,2)else none
def a1J(w:ByteArray)(rest:List ByteArray):Option Cmd:=match a2O w with
 |none=>none
 |some (k,many,nums)=>if rest.length≠many+nums then none else
  match (rest.take many).all a01,allS anp (rest.drop many)with
  |true,some ns=>some (.asked k (rest.take many) ns)
  |_,_=>none
def a0I(w r0:ByteArray)(rs:List ByteArray)(line:ByteArray):Option Cmd:=
 if w=putW then (if a01 r0&& !(a0k rs).data.toList.isEmpty&&a0j line then some (.put r0 (a0k rs))else none)
 else if w=dropW then (if decide (rs=[])&&a01 r0 then some (.drop r0)else none)
 else if w=stockW then (if decide (rs=[])&&a01 r0 then some (.stock r0)else none)
 else if w=addW then (match allS anp rs with
  |some [n]=>if a01 r0 then some (.add r0 n)else none
  |_=>none)
 else if w=shareW then (match anp r0 with
  |some n=>if rs.all a01&&betw 1 rs.length 8 then some (.share n rs)else none
  |none=>none)
 else a1J w (r0::rs)
def a05(line:ByteArray):Option Cmd:=match splitA 32 line with
 |w::r0::rs=>a0I w r0 rs line
 |_=>none
theorem a0V(s:ByteArray):a0j s=true↔s.size<=60/\∀c∈s.data.toList,32<=c.toNat/\c.toNat<=126:=by
 unfold a0j;rw[Bool.and_eq_true,decide_eq_true_eq,Bool.not_eq_true',amM];refine and_congr_right fun _=>forall_congr' fun c=>forall_congr' fun _=>?_;unfold a17;rw[Bool.not_eq_true,Bool.or_eq_false_iff,decide_eq_false_iff_not,decide_eq_false_iff_not];omega
theorem a5a(s:ByteArray):a01 s=true↔1<=s.size/\s.size<=8/\∀c∈s.data.toList,97<=c.toNat/\c.toNat<=122:=by
 unfold a01;rw[Bool.and_eq_true,betw_iff,Bool.not_eq_true',amM,and_assoc];refine and_congr (by omega) (and_congr (by omega) (forall_congr' fun c=>forall_congr' fun _=>?_));unfold a11;rw[Bool.not_eq_true,Bool.or_eq_false_iff,decide_eq_false_iff_not,decide_eq_false_iff_not];omega
theorem a1g(s:ByteArray):a3n s=a0j s:=by
 rw[Bool.eq_iff_iff,a0V];unfold a3n;rw[Bool.and_eq_true,decide_eq_true_eq,amh];refine and_congr_right fun _=>forall_congr' fun c=>forall_congr' fun _=>?_;rw[Bool.and_eq_true,decide_eq_true_eq,decide_eq_true_eq]
theorem a03(s:ByteArray):s.size=s.data.toList.length:=by simp
theorem a2Y{s w:ByteArray}{rs:List ByteArray}(h:splitA 32 s=w::rs)(hr:rs≠[]):s.data.toList=w.data.toList++32::(a0k rs).data.toList:=by
 unfold splitA a1c at h;obtain⟨x,xs,hq,hx,hxs⟩:=List.map_eq_cons_iff.1 h;have:=ad1 32 _ _ x xs hq (by rintro rfl;simp at hxs;exact hr hxs);rw[this,<-hx,<-hxs];simp[a0k,bsB,amH,Function.comp_def]
theorem a4H(r:ByteArray):a0k [r]=r:=by unfold a0k;rw[List.map_singleton,Lib.join_one];exact a3W r
theorem a5B(r r2:ByteArray)(rs:List ByteArray):(a0k (r::r2::rs)).data.toList=r.data.toList++32::(a0k (r2::rs)).data.toList:=by
 unfold a0k;rw[a1b,a1b,alW,alW,Lib.join_cons,Lib.join_cons];simp[Lib.joinTail]
theorem abv{s:ByteArray}{a b:List UInt8}(h:s.data.toList=a++32::b)(hl:a.length+b.length+1<=60)(ha:∀c∈a,32<=c.toNat/\c.toNat<=126)(hb:∀c∈b,32<=c.toNat/\c.toNat<=126):a0j s=true:=by
 rw[a0V,a03,h];refine⟨by simp;omega,fun c hc=>?_⟩;rcases alU.1 hc with hc|hc
 ·exact ha c hc
 rcases alI.1 hc with rfl|hc
 ·decide
 exact hb c hc
theorem a3f{s:ByteArray}{c:Cmd}(h:a05 s=some c)(hd:c.deed=true):a0j s=true:=by
 unfold a05 at h;split at h
 ·rename_i w r0 rs hs
  unfold a0I at h;split at h
  ·split at h
   ·rename_i hc
    rw[Bool.and_eq_true]at hc;exact hc.2
   cases h
  split at h
  ·rename_i hw
   split at h
   ·rename_i hc
    rw[Bool.and_eq_true,decide_eq_true_eq,a5a]at hc;obtain⟨rfl,h1,h2,h3⟩:=hc;have he:=a2Y hs (by simp);rw[a4H]at he;subst hw;exact abv he (by have h4:dropW.data.toList.length=4:=rfl;have h5:=a03 r0;omega) (by decide) (fun c hc=>by have:=h3 c hc;omega)
   cases h
  split at h
  ·split at h
   ·cases h;cases hd
   cases h
  split at h
  ·rename_i hw
   split at h
   ·rename_i n hn
    split at h
    ·rename_i hc
     rw[a5a]at hc;obtain⟨h1,h2,h3⟩:=hc
     obtain⟨r1,rfl⟩:∃r1,rs=[r1]:=by
      have:=allS_len _ _ _ hn;match rs,this with
      |[r],_=>exact⟨r,rfl⟩
     have hn1:anp r1=some n:=by
      unfold allS at hn;cases h4:anp r1 with
      |none=>simp[h4]at hn
      |some v=>simpa [h4,allS]using hn
     obtain⟨e1,b1,b2⟩:=a3e hn1;have he:=a2Y hs (by simp);rw[a5B,a4H]at he;subst hw;have l1:=agm b1 b2;have e2:r1.data.toList=Lib.itoa n:=by rw[e1];rfl
     rw[e2]at he;refine abv (a:=addW.data.toList) (b:=r0.data.toList++32::Lib.itoa n) he (by have h4:addW.data.toList.length=3:=rfl;have h5:=a03 r0;rw[alA,alB];omega) (by decide) (fun c hc=>?_);rcases alU.1 hc with hc|hc
     ·have:=h3 c hc;omega
     rcases alI.1 hc with rfl|hc
     ·decide
     have:=a6n n c hc;omega
    cases h
   cases h
  split at h
  ·split at h
   ·split at h
    ·cases h;cases hd
    cases h
   cases h
  unfold a1J at h;split at h
  ·cases h
  split at h
  ·cases h
  split at h
  ·cases h;cases hd
  cases h
 cases h
structure Kn where
 txt:ByteArray->Option ByteArray
 stk:ByteArray->Int
def kn0:Kn:=⟨fun _=>none,fun _=>0⟩
def upd{α:Type}(f:ByteArray->α)(x:ByteArray)(v:α):ByteArray->α:=fun y=>if y=x then v else f y
theorem a5C{α:Type}(f:ByteArray->α)(x:ByteArray)(v:α):upd f x v x=v:=by simp[upd]
theorem a6o{α:Type}(f:ByteArray->α){x y:ByteArray}(v:α)(h:y≠x):upd f x v y=f y:=by simp[upd,h]
def anC:Cmd->Kn->(ByteArray×Int)×Kn
 | .put n t,k=>((t,0),⟨upd k.txt n (some t),k.stk⟩)
 | .drop n,k=>match k.txt n with
  |none=>((emp,5),k)
  |some s=>((s,0),⟨upd k.txt n none,k.stk⟩)
 | .add n m,k=>((itoaB (k.stk n+m),0),⟨k.txt,upd k.stk n (k.stk n+m)⟩)
 |_,k=>((emp,0),k)
def a0L(k:Kn)(s:ByteArray):Kn:=match a05 s with
 |some c=>if c.deed then (anC c k).2 else k
 |none=>k
def a1w(k:Kn)(l:List Ent):Kn:=l.foldl (fun k e=>a0L k (a06 e)) k
def a07(l:List Ent):Kn:=a1w kn0 l
theorem aev(l:List Ent)(e:Ent):a07 (l++[e])=a0L (a07 l) (a06 e):=by unfold a07 a1w;rw[amN];rfl
def anG(b:anl)(n:Nat)(line:ByteArray):Ent:=((n:Int),((b n).length:Int)+1,anF b+1,line)
def a0K(b:anl)(n:Nat)(e:Ent):anl:=aoz b n (b n++[e])
def doB(b:anl)(n:Nat)(line:ByteArray):ByteArray×Int×anl:=match a05 line with
 |none=>(emp,100,b)
 |some c=>if c.deed=false then (emp,100,b)else
  if 60<=(b n).length\/1000000<=anF b then (emp,4,b)else
  if (anC c (a07 (ann b))).1.2=0 then ((anC c (a07 (ann b))).1.1,0,a0K b n (anG b n line))else (emp,(anC c (a07 (ann b))).1.2,b)
theorem a6p(l:List Ent)(e:Ent):a0m (l++[e])=ano e:=by unfold a0m;simp
theorem a5D{i:Nat}{l:List Ent}(h:ListOk i l):0<=a0m l/\a0m l<=1000000:=by
 unfold a0m;cases hl:l.getLast? with
 |none=>simp
 |some e=>have:=h.mem (List.mem_of_getLast? hl);simp;omega
theorem ad2{i:Nat}{l:List Ent}(h:ListOk i l){e:Ent}(he:e∈l):ano e<=a0m l:=by
 obtain⟨j,hj,rfl⟩:=ami he
 have hl:a0m l=ano (l[l.length-1]'(by omega)):=by
  unfold a0m;rw[List.getLast?_eq_getElem?,alz (by omega)]
 rw[hl];by_cases hjl:j=l.length-1
 ·subst hjl;exact am4 _
 exact Int.le_of_lt (amz.1 h.asc j (l.length-1) hj (by omega) (by omega))
theorem a3x{b:anl}(hb:a02 b):0<=anF b/\anF b<=1000000:=by
 have h0:=a5D (hb 0 (by omega));have h1:=a5D (hb 1 (by omega));have h2:=a5D (hb 2 (by omega));have h3:=a5D (hb 3 (by omega));unfold anF;omega
theorem a7y(b:anl){i:Nat}(hi:i<4):a0m (b i)<=anF b:=by
 unfold anF;rcases (show i=0\/i=1\/i=2\/i=3 by omega)with rfl|rfl|rfl|rfl<;>omega
theorem a7z{i:Nat}{l:List Ent}(h:ListOk i l){e:Ent}(hlen:l.length<60)(h1:a04 e=i)(h2:anv e=(l.length:Int)+1)(h3:1<=ano e)(h4:ano e<=1000000)(h5:a3n (a06 e)=true)(h6:a0m l<ano e):ListOk i (l++[e]):=by
 refine⟨by simp;omega,fun j hj=>?_,amW.2 ⟨h.asc,List.pairwise_singleton _ _,fun a ha c hc=>?_⟩⟩
 ·by_cases hjl:j<l.length
  ·rw[amJ hjl];exact h.own j hjl
  have hjl2:j=l.length:=by simp at hj;omega
  subst hjl2;simp only[List.getElem_append_right (aly _),ani,am1];exact⟨h1,by simpa using h2,h3,h4,h5⟩
 have:c=e:=by simpa using hc
 subst this;have:=ad2 h ha;omega
theorem adO{b:anl}(hb:a02 b){n:Nat}{l:List Ent}(hl:ListOk n l):a02 (aoz b n l):=fun i hi=>by
 by_cases h:i=n
 ·subst h;rw[a3d];exact hl
 rw[a2N _ _ h];exact hb i hi
theorem aiE{b:anl}(hb:a02 b){n:Nat}(hn:n<4){line:ByteArray}(h1:(b n).length<60)(h2:anF b<1000000)(h3:a0j line=true):a02 (a0K b n (anG b n line)):=by
 have hc:=a3x hb;have hl:=a7y b hn;exact adO hb (a7z (hb n hn) h1 rfl rfl (by show 1<=anF b+1;omega) (by show anF b+1<=1000000;omega) (by rw[a1g];exact h3) (by show a0m (b n)<anF b+1;omega))
theorem a8q{b:anl}(hb:a02 b){n:Nat}(hn:n<4)(line:ByteArray):a02 (doB b n line).2.2:=by
 unfold doB;split
 ·exact hb
 rename_i c hp
 split
 ·exact hb
 rename_i hd
 split
 ·exact hb
 rename_i hlim
 split
 ·exact aiE hb hn (by omega) (by omega) (a3f hp (by simpa using hd))
 exact hb
theorem abw{i:Nat}{l m:List Ent}(hl:ListOk i l)(hm:ListOk i m):ListOk i (a0N l m):=by unfold a0N;split<;>assumption
theorem aiF{b o c:anl}(hb:a02 b)(ho:a02 o)(h:a2v b o=some c):a02 c:=by
 unfold a2v at h;split at h
 ·simp only[Option.some.injEq]at h;subst h;exact fun i hi=>abw (hb i hi) (ho i hi)
 cases h
end Go.Proofs.YtdfkaijeppdhaaaGreatDoor
namespace Go.Proofs.YtdfkaijeppdhaaaGreatDoor
open Go
theorem aew(b:anl)(i:Nat):a1s b (fun _=>0) i=b i:=by
 unfold a1s;rw[show (min (max 0 (0:Int)) ((b i).length:Int)).toNat=0 by omega,List.drop_zero]
theorem a4I(b:anl):anY b (fun _=>0)=b 0++(b 1++(b 2++b 3)):=by unfold anY;simp only[aew]
theorem a4J(b:anl):(ann b).Perm (b 0++(b 1++(b 2++b 3))):=by
 have:=a3c (anY b fun _=>0);rw[a4I]at this;unfold ann a2y;rw[a4I];exact this
theorem abx{b:anl}{e:Ent}(h:e∈ann b):∃i,i<4/\e∈b i:=by
 have:=(a4J b).mem_iff.1 h
 simp only[alU]at this;rcases this with h|h|h|h
 ·exact⟨0,by omega,h⟩
 ·exact⟨1,by omega,h⟩
 ·exact⟨2,by omega,h⟩
 exact⟨3,by omega,h⟩
def lenB(b:anl):Nat:=(b 0).length+(b 1).length+(b 2).length+(b 3).length
theorem a0X(b:anl):(ann b).length=lenB b:=by
 rw[(a4J b).length_eq];unfold lenB;simp;omega
theorem a1t{b:anl}(hb:a02 b):lenB b<=240:=by
 have h0:=(hb 0 (by omega)).len
 have h1:=(hb 1 (by omega)).len
 have h2:=(hb 2 (by omega)).len
 have h3:=(hb 3 (by omega)).len
 unfold lenB;omega
theorem aiG{l:List Ent}(h:Asc l):aod l:=h.imp fun hlt hk=>by unfold eLt at hlt;omega
theorem aae{l m:List Ent}(hp:l.Perm m)(h:aod l):aod m:=(List.Perm.pairwise_iff (fun {a b} (hk:¬(ano a=ano b/\a04 a=a04 b)) h2=>hk ⟨h2.1.symm,h2.2.symm⟩) hp).1 h
theorem ad3{b:anl}{m:List Ent}(hm:Asc m)(hp:m.Perm (ann b)):m=ann b:=
 a7x hm (aae (hp.trans (a3c _)) (aiG hm)) (hp.trans (a3c _))
def BookEq(b c:anl):Prop:=∀i,i<4->b i=c i
theorem BookEq.refl(b:anl):BookEq b b:=fun _ _=>rfl
theorem BookEq.symm{b c:anl}(h:BookEq b c):BookEq c b:=fun i hi=>(h i hi).symm
theorem BookEq.trans{b c d:anl}(h:BookEq b c)(k:BookEq c d):BookEq b d:=fun i hi=>(h i hi).trans (k i hi)
theorem BookEq.all{b c:anl}(h:BookEq b c):ann b=ann c:=by
 unfold ann a2y;rw[a4I,a4I,h 0 (by omega),h 1 (by omega),h 2 (by omega),h 3 (by omega)]
theorem BookEq.cnt{b c:anl}(h:BookEq b c):anF b=anF c:=by
 unfold anF;rw[h 0 (by omega),h 1 (by omega),h 2 (by omega),h 3 (by omega)]
theorem BookEq.len{b c:anl}(h:BookEq b c):lenB b=lenB c:=by
 unfold lenB;rw[h 0 (by omega),h 1 (by omega),h 2 (by omega),h 3 (by omega)]
theorem BookEq.ok{b c:anl}(h:BookEq b c)(hb:a02 b):a02 c:=fun i hi=>by rw[<-h i hi];exact hb i hi
def abp(M:Nat->List Ent)(b:anl):Prop:=∀i,i<4->b i<+:M i
theorem aex{l m M:List Ent}(hl:l<+:M)(hm:m<+:M)(h:l.length=m.length):l=m:=by
 rw[amx.1 hl,amx.1 hm,h]
theorem a8r{l m M:List Ent}(hl:l<+:M)(hm:m<+:M):anx l m=true:=by
 unfold anx;rw[Bool.or_eq_true,decide_eq_true_eq,decide_eq_true_eq];rcases Nat.le_total l.length m.length with h|h
 ·exact .inl (List.prefix_of_prefix_length_le hl hm h)
 exact .inr (List.prefix_of_prefix_length_le hm hl h)
theorem agn(l m:List Ent):(a0N l m).length=max l.length m.length:=by unfold a0N;split<;>omega
theorem a7A{l m M:List Ent}(hl:l<+:M)(hm:m<+:M):a0N l m<+:M:=by unfold a0N;split<;>assumption
def a1u(b o:anl):anl:=fun i=>a0N (b i) (o i)
theorem aey{M:Nat->List Ent}{b o:anl}(hb:abp M b)(ho:abp M o):a2v b o=some (a1u b o)/\abp M (a1u b o):=by
 refine⟨?_,fun i hi=>a7A (hb i hi) (ho i hi)⟩;unfold a2v;rw[a8r (hb 0 (by omega)) (ho 0 (by omega)),a8r (hb 1 (by omega)) (ho 1 (by omega)),a8r (hb 2 (by omega)) (ho 2 (by omega)),a8r (hb 3 (by omega)) (ho 3 (by omega))];rfl
theorem join_len(b o:anl)(i:Nat):(a1u b o i).length=max (b i).length (o i).length:=agn _ _
theorem aiH{b o:anl}(hb:a02 b)(ho:a02 o):a02 (a1u b o):=fun i hi=>abw (hb i hi) (ho i hi)
structure Sys(bs:Nat->anl):Prop where
 ok:∀j,j<3->a02 (bs j)
 own:∀j,j<3->∀i,i<3->bs j i<+:bs i i
 none:∀j,j<3->bs j 3=[]
def adP(bs:Nat->anl):Nat->List Ent:=fun i=>if i<3 then bs i i else []
theorem Sys.under{bs:Nat->anl}(h:Sys bs){j:Nat}(hj:j<3):abp (adP bs) (bs j):=fun i hi=>by
 unfold adP;split
 ·exact h.own j hj i (by assumption)
 obtain rfl:i=3:=by omega
 rw[h.none j hj];exact List.nil_prefix
def setP(bs:Nat->anl)(j:Nat)(b:anl):Nat->anl:=fun k=>if k=j then b else bs k
theorem a1D(bs:Nat->anl)(j:Nat)(b:anl):setP bs j b j=b:=by simp[setP]
theorem a1d(bs:Nat->anl){j k:Nat}(b:anl)(h:k≠j):setP bs j b k=bs k:=by simp[setP,h]
theorem akq:Sys fun _=>anO:=⟨fun _ _=>a3w,fun _ _ _ _=>an2 _,fun _ _=>rfl⟩
theorem a8s{l m:List Ent}(h:m<+:l):a0N l m=l:=by
 unfold a0N;split
 ·rfl
 exact(h.eq_of_length (by have:=h.length_le;omega))
theorem Sys.join{bs:Nat->anl}(h:Sys bs){j k:Nat}(hj:j<3)(hk:k<3):Sys (setP bs j (a1u (bs j) (bs k))):=by
 have hown:∀i,i<3->setP bs j (a1u (bs j) (bs k)) i i=bs i i:=fun i hi=>by
  by_cases e:i=j
  ·subst e;rw[a1D];exact a8s (h.own k hk i hi)
  rw[a1d _ _ e]
 refine⟨fun x hx=>?_,fun x hx i hi=>?_,fun x hx=>?_⟩
 ·by_cases e:x=j
  ·subst e;rw[a1D];exact aiH (h.ok x hx) (h.ok k hk)
  rw[a1d _ _ e];exact h.ok x hx
 ·rw[hown i hi];by_cases e:x=j
  ·subst e;rw[a1D];exact a7A (h.own x hx i hi) (h.own k hk i hi)
  rw[a1d _ _ e];exact h.own x hx i hi
 by_cases e:x=j
 ·subst e;rw[a1D];unfold a1u;rw[h.none x hx,h.none k hk];rfl
 rw[a1d _ _ e];exact h.none x hx
theorem ago(b:anl)(n:Nat)(line:ByteArray):(doB b n line).2.2=b\/(doB b n line).2.2=a0K b n (anG b n line):=by
 unfold doB;split
 ·exact .inl rfl
 split
 ·exact .inl rfl
 split
 ·exact .inl rfl
 split
 ·exact .inr rfl
 exact .inl rfl
theorem Sys.add{bs:Nat->anl}(h:Sys bs){j:Nat}(hj:j<3)(line:ByteArray):Sys (setP bs j (doB (bs j) j line).2.2):=by
 have hok:=a8q (h.ok j hj) (show j<4 by omega) line;rcases ago (bs j) j line with e|e
 ·rw[e]
  have:setP bs j (bs j)=bs:=by
   funext x;by_cases ex:x=j
   ·subst ex;rw[a1D]
   rw[a1d _ _ ex]
  rw[this];exact h
 rw[e]at hok⊢;have hoth:∀i,i≠j->a0K (bs j) j (anG (bs j) j line) i=bs j i:=fun i hi=>a2N _ _ hi
 have hown:∀i,i<3->bs i i<+:setP bs j (a0K (bs j) j (anG (bs j) j line)) i i:=fun i hi=>by
  by_cases e:i=j
  ·subst e;rw[a1D];unfold a0K;rw[a3d];exact List.prefix_append _ _
  rw[a1d _ _ e];exact an2 _
 refine⟨fun x hx=>?_,fun x hx i hi=>?_,fun x hx=>?_⟩
 ·by_cases ex:x=j
  ·subst ex;rw[a1D];exact hok
  rw[a1d _ _ ex];exact h.ok x hx
 ·by_cases ex:x=j
  ·subst ex;by_cases ei:i=x
   ·subst ei;exact an2 _
   rw[a1D,hoth i ei,a1d _ _ ei];exact h.own x hx i hi
  rw[a1d _ _ ex];exact(h.own x hx i hi).trans (hown i hi)
 by_cases ex:x=j
 ·subst ex;rw[a1D,hoth 3 (by omega)];exact h.none x hx
 rw[a1d _ _ ex];exact h.none x hx
def a32(e:Ent):List UInt8:=Lib.itoa (a04 e)++32::(Lib.itoa (anv e)++32::(Lib.itoa (ano e)++32::((a06 e).data.toList++[10])))
def a0O(l:List Ent):List UInt8:=l.flatMap a32
def a0F(b:anl):ByteArray:=bsB (a0O (ann b))
theorem BookEq.text{b c:anl}(h:BookEq b c):a0F b=a0F c:=by unfold a0F;rw[h.all]
theorem a6q(n:Int):(10:UInt8)∉Lib.itoa n:=fun h=>by have:=a6n n _ h;simp at this
theorem agp{s:ByteArray}(h:a3n s=true):(10:UInt8)∉s.data.toList:=fun hm=>by
 rw[a1g,a0V]at h;have:=h.2 _ hm;simp at this
end Go.Proofs.YtdfkaijeppdhaaaGreatDoor
