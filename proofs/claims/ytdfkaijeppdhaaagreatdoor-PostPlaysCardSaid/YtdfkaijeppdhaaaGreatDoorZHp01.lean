/- Texts of this claim, laid together: Bk. -/
import Derived.WalkKit
import Derived.WalkSpells
import Derived.WalkLawsBesides
import Derived.Lib.Hide
import Derived.Lib.Split
import Derived.Lib.AtoiAll
import Derived.Lib.ItoaNum
import Derived.Lib.Join

set_option maxRecDepth 100000
set_option maxHeartbeats 8000000
set_option linter.unusedSimpArgs false
set_option linter.unusedVariables false

namespace Go.Proofs.YtdfkaijeppdhaaaGreatDoor
abbrev Ent:=Int×Int×Int×ByteArray
def a04(e:Ent):Int:=e.1
def eNum(e:Ent):Int:=e.2.1
def eCnt(e:Ent):Int:=e.2.2.1
def a05(e:Ent):ByteArray:=e.2.2.2
def eLt(a b:Ent):Prop:=eCnt a<eCnt b\/(eCnt a=eCnt b/\a04 a<a04 b)
def eLe(a b:Ent):Prop:=eCnt a<eCnt b\/(eCnt a=eCnt b/\a04 a<=a04 b)
instance(a b:Ent):Decidable (eLt a b):=inferInstanceAs (Decidable (_\/_))
instance(a b:Ent):Decidable (eLe a b):=inferInstanceAs (Decidable (_\/_))
def eCmp(a b:Ent):Int:=if eLt a b then-1 else if eLt b a then 1 else 0
theorem a9k{a b c:Ent}(h:eLt a b)(k:eLt b c):eLt a c:=by unfold eLt at *;omega
theorem adp(a:Ent):¬eLt a a:=by unfold eLt;omega
theorem af2{a b:Ent}(h:eLt a b):¬eLt b a:=by unfold eLt at *;omega
theorem af3(a b:Ent):eLt a b\/eLt b a\/(eCnt a=eCnt b/\a04 a=a04 b):=by unfold eLt;omega
def insE(e:Ent):List Ent->List Ent
 |[]=>[e]
 |x::r=>if eLt e x then e::x::r else x::insE e r
def srtE:List Ent->List Ent
 |[]=>[]
 |e::r=>insE e (srtE r)
def Asc(l:List Ent):Prop:=l.Pairwise eLt
theorem a5R(e:Ent):∀l,(insE e l).Perm (e::l)
 |[]=>.refl _
 |x::r=>by
  unfold insE;split
  ·exact .refl _
  exact((a5R e r).cons x).trans (.swap _ _ _)
theorem a2S:∀l,(srtE l).Perm l
 |[]=>.refl _
 |e::r=>(a5R e _).trans ((a2S r).cons e)
theorem srtE_mem{l:List Ent}{e:Ent}:e∈srtE l↔e∈l:=(a2S l).mem_iff
def Keys(l:List Ent):Prop:=l.Pairwise fun a b=>¬(eCnt a=eCnt b/\a04 a=a04 b)
theorem aax{e:Ent}:∀{l:List Ent},Asc l->(∀x∈l,¬(eCnt e=eCnt x/\a04 e=a04 x))->Asc (insE e l)
 |[],_,_=>by simp[insE,Asc]
 | x::r,h,hk=>by
  unfold insE;have hx:=List.pairwise_cons.1 h;split
  ·rename_i hlt
   exact List.pairwise_cons.2 ⟨fun y hy=>by
    rcases List.mem_cons.1 hy with rfl|hy
    ·exact hlt
    exact a9k hlt (hx.1 y hy),h⟩
  rename_i hnlt
  refine List.pairwise_cons.2 ⟨fun y hy=>?_,aax hx.2 (fun z hz=>hk z (by simp[hz]))⟩;rcases List.mem_cons.1 ((a5R e r).mem_iff.1 hy)with rfl|hy
  ·rcases af3 y x with h1|h1|h1
   ·exact absurd h1 hnlt
   ·exact h1
   exact absurd h1 (hk x (by simp))
  exact hx.1 y hy
theorem aay:∀{l:List Ent},Keys l->Asc (srtE l)
 |[],_=>List.Pairwise.nil
 |e::r,h=>by
  have hx:=List.pairwise_cons.1 h;exact aax (aay hx.2) (fun x hx2=>hx.1 x (srtE_mem.1 hx2))
theorem a7L:∀{l m:List Ent},Asc l->Asc m->l.Perm m->l=m
 |[],m,_,_,hp=>(List.nil_perm.1 hp).symm▸rfl
 |a::l,[],_,_,hp=>by simpa using hp.length_eq
 | a::l,b::m,hl,hm,hp=>by
  have h1:=List.pairwise_cons.1 hl;have h2:=List.pairwise_cons.1 hm
  have hab:a=b:=by
   rcases List.mem_cons.1 (hp.mem_iff.1 (List.mem_cons_self))with h|h
   ·exact h
   rcases List.mem_cons.1 (hp.mem_iff.2 (List.mem_cons_self (a:=b)))with k|k
   ·exact k.symm
   exact absurd (h2.1 a h) (af2 (h1.1 b k))
  subst hab;rw[a7L h1.2 h2.2 (List.Perm.cons_inv hp)]
theorem a6V{l m:List Ent}(hm:Asc m)(hk:Keys l)(hp:m.Perm l):m=srtE l:=a7L hm (aay hk) (hp.trans (a2S l).symm)
abbrev Book:=Nat->List Ent
def empB:Book:=fun _=>[]
def setB(b:Book)(i:Nat)(l:List Ent):Book:=fun j=>if j=i then l else b j
theorem a5S(b:Book)(i:Nat)(l:List Ent):setB b i l i=l:=by simp[setB]
theorem a58(b:Book){i j:Nat}(l:List Ent)(h:j≠i):setB b i l j=b j:=by simp[setB,h]
def a4n(s:ByteArray):Bool:=decide (s.size<=60)&&s.data.toList.all fun c=>decide (32<=c.toNat)&&decide (c.toNat<=126)
structure ListOk(i:Nat)(l:List Ent):Prop where
 len:l.length<=60
 own:∀j (h:j<l.length),a04 l[j]=i/\eNum l[j]=j+1/\1<=eCnt l[j]/\eCnt l[j]<=1000000/\a4n (a05 l[j])=true
 asc:l.Pairwise fun a b=>eCnt a<eCnt b
def a08(b:Book):Prop:=∀i,i<4->ListOk i (b i)
theorem adq(i:Nat):ListOk i []:=⟨by simp,fun j h=>by simp at h,List.Pairwise.nil⟩
theorem a8X:a08 empB:=fun i _=>adq i
theorem ListOk.take{i:Nat}{l:List Ent}(h:ListOk i l)(k:Nat):ListOk i (l.take k):=
 ⟨by have:=h.len;rw[List.length_take];omega,fun j hj=>by
  have hj2:j<l.length:=by rw[List.length_take]at hj;omega
  rw[List.getElem_take];exact h.own j hj2,h.asc.sublist (List.take_sublist k l)⟩
def a1g(b:Book)(seen:Nat->Int)(i:Nat):List Ent:=(b i).drop (min (max 0 (seen i)) (b i).length).toNat
def catB(b:Book)(seen:Nat->Int):List Ent:=a1g b seen 0++(a1g b seen 1++(a1g b seen 2++a1g b seen 3))
def a33(b:Book)(seen:Nat->Int):List Ent:=srtE (catB b seen)
def allB(b:Book):List Ent:=a33 b fun _=>0
theorem ListOk.mem{i:Nat}{l:List Ent}(h:ListOk i l){e:Ent}(he:e∈l):a04 e=i/\1<=eCnt e/\eCnt e<=1000000/\a4n (a05 e)=true:=by
 obtain⟨j,hj,rfl⟩:=List.getElem_of_mem he;obtain⟨h1,_,h3,h4,h5⟩:=h.own j hj;exact⟨h1,h3,h4,h5⟩
theorem af4{b:Book}{seen:Nat->Int}{i:Nat}{e:Ent}(h:e∈a1g b seen i):e∈b i:=List.mem_of_mem_drop h
theorem a3R{b:Book}{seen:Nat->Int}{i:Nat}(h:ListOk i (b i)):Keys (a1g b seen i):=
 (h.asc.sublist (List.drop_sublist _ _)).imp fun hlt hk=>by omega
theorem a4H{l m:List Ent}(h1:Keys l)(h2:Keys m)(h3:∀a∈l,∀c∈m,a04 a≠a04 c):Keys (l++m):=
 List.pairwise_append.2 ⟨h1,h2,fun a ha c hc hk=>h3 a ha c hc hk.2⟩
theorem a9l{b:Book}(hb:a08 b)(seen:Nat->Int):Keys (catB b seen):=by
 have hm:∀i,i<4->∀e∈a1g b seen i,a04 e=i:=fun i hi e he=>((hb i hi).mem (af4 he)).1
 refine a4H (a3R (hb 0 (by omega))) (a4H (a3R (hb 1 (by omega))) (a4H (a3R (hb 2 (by omega))) (a3R (hb 3 (by omega))) ?_) ?_) ?_
 ·intro a ha c hc;rw[hm 2 (by omega) a ha,hm 3 (by omega) c hc];omega
 ·intro a ha c hc;rw[hm 1 (by omega) a ha];rcases List.mem_append.1 hc with hc|hc
  ·rw[hm 2 (by omega) c hc];omega
  rw[hm 3 (by omega) c hc];omega
 intro a ha c hc;rw[hm 0 (by omega) a ha];rcases List.mem_append.1 hc with hc|hc
 ·rw[hm 1 (by omega) c hc];omega
 rcases List.mem_append.1 hc with hc|hc
 ·rw[hm 2 (by omega) c hc];omega
 rw[hm 3 (by omega) c hc];omega
def a0k(l:List Ent):Int:=match l.getLast? with
 |none=>0
 |some e=>eCnt e
def cntB(b:Book):Int:=max (max (max (max 0 (a0k (b 0))) (a0k (b 1))) (a0k (b 2))) (a0k (b 3))
def a18(l m:List Ent):List Ent:=if m.length<l.length then l else m
def fitL(l m:List Ent):Bool:=decide (l<+:m)||decide (m<+:l)
def a3t(b o:Book):Option Book:=if (fitL (b 0) (o 0)&&fitL (b 1) (o 1)&&fitL (b 2) (o 2)&&fitL (b 3) (o 3))=true then some (fun i=>a18 (b i) (o i))else none
end Go.Proofs.YtdfkaijeppdhaaaGreatDoor
namespace Go.Proofs.YtdfkaijeppdhaaaGreatDoor
open Go.RowKit
theorem keep_cell{w w':World}(hb:Below w.heap.size w w'){a:Addr}{v:Value}(h:w.cell? a=some v):w'.cell? a=some v:=
 (hb.cell (World.block_lt_of_cell? _ _ h)).trans h
theorem heap_cell{X:World}{b j:Nat}{A:Array Value}{T:TypeId}{fr:Nat×Nat}{v:Value}(h:X.heap[b]? =some (.cells A T fr))(hj:A[j]? =some v):X.cell? ⟨b,j,none⟩=some v:=by
 simp[World.cell?,h,hj]
structure Off(F:List Nat)(w w':World):Prop where
 os:w'.os=w.os
 tape:w'.tape=w.tape
 output:w'.output=w.output
 size:w.heap.size<=w'.heap.size
 block:∀k,k<w.heap.size->k∉F->w'.heap[k]? =w.heap[k]?
theorem Off.refl(F:List Nat)(w:World):Off F w w:=⟨rfl,rfl,rfl,Nat.le_refl _,fun _ _ _=>rfl⟩
theorem Off.mono{F G:List Nat}{w w':World}(h:Off F w w')(hs:∀k,k∈F->k∈G\/w.heap.size<=k):Off G w w':=
 ⟨h.os,h.tape,h.output,h.size,fun k h1 h2=>h.block k h1 fun h3=>(hs k h3).elim h2 (fun h4=>by omega)⟩
theorem Off.trans{F:List Nat}{a b c:World}(h:Off F a b)(k:Off F b c):Off F a c:=
 ⟨k.os.trans h.os,k.tape.trans h.tape,k.output.trans h.output,Nat.le_trans h.size k.size,fun i h1 h2=>(k.block i (Nat.lt_of_lt_of_le h1 h.size) h2).trans (h.block i h1 h2)⟩
theorem Off.of_below{F:List Nat}{w w':World}(h:Below w.heap.size w w'):Off F w w':=⟨h.os,h.tape,h.output,h.size,fun k h1 _=>h.block k h1⟩
theorem Off.below{F:List Nat}{w w':World}(h:Off F w w'){n:Nat}(hn:n<=w.heap.size)(hF:∀k∈F,n<=k):Below n w w':=
 ⟨h.os,h.tape,h.output,h.size,fun k hk=>h.block k (by omega) fun h2=>by have:=hF k h2;omega⟩
def entC(e:Ent):List Value:=[.int .i64 (a04 e),.int .i64 (eNum e),.int .i64 (eCnt e),.string (a05 e)]
def rowE(l:List Ent):List Value:=l.flatMap entC
theorem a0K(l:List Ent):(rowE l).length=l.length * 4:=by
 induction l with
 |nil=>rfl
 |cons e l ih=>simp only[rowE,List.flatMap_cons,List.length_append]at ih⊢;rw[ih];simp[entC];omega
theorem a1s(l m:List Ent):rowE (l++m)=rowE l++rowE m:=by simp[rowE]
theorem a26:∀(l:List Ent) (j c:Nat) (h:j<l.length),c<4->(rowE l)[j * 4+c]? =(entC l[j])[c]?
 |e::l,0,c,_,hc=>by
  simp only[rowE,List.flatMap_cons,Nat.zero_mul,Nat.zero_add,List.getElem_cons_zero];rw[List.getElem?_append_left (by simpa [entC]using hc)]
 |e::l,j+1,c,h,hc=>by
  have h2:j<l.length:=by simpa using h
  have:=a26 l j c h2 hc;simp only[rowE,List.flatMap_cons,List.getElem_cons_succ]at this⊢;rw[List.getElem?_append_right (by simp[entC];omega),<-this];congr 1;simp[entC];omega
def entV(e:Ent):Value:=.agg #[.int .i64 (a04 e),.int .i64 (eNum e),.int .i64 (eCnt e),.string (a05 e)]
def EntsAt(w:World)(v:Value)(l:List Ent):Prop:=
 ∃(a:Option Addr) (cap:Nat),v= .slice a l.length cap/\l.length<=9223372036854775807/\
  (0<l.length->∃b off,a=some ⟨b,off,none⟩/\∀j c x,c<4->(rowE l)[j * 4+c]? =some x->w.cell? ⟨b,off+j * 4+c,none⟩=some x)
theorem EntsAt.below{w w':World}{v:Value}{l:List Ent}(h:EntsAt w v l)(hb:Below w.heap.size w w'):EntsAt w' v l:=by
 obtain⟨a,cap,rfl,hl,h⟩:=h;refine⟨a,cap,rfl,hl,fun h0=>?_⟩;obtain⟨b,off,ha,hc⟩:=h h0;exact⟨b,off,ha,fun j c x hcc hx=>keep_cell hb (hc j c x hcc hx)⟩
def ListAt(w:World)(v:Value)(l:List Ent):Prop:=w.ownsRow 0 43 4 v l.length (rowE l)
theorem ListAt.ents{w:World}{v:Value}{l:List Ent}(h:ListAt w v l)(hl:l.length<=9223372036854775807):EntsAt w v l:=by
 have hx:=h.1;rcases h.2 with⟨rfl,h0⟩|⟨g,cap,cur,rfl,hrest⟩
 ·exact⟨none,0,by rw[h0],hl,fun h1=>by omega⟩
 refine⟨some ⟨g,0,none⟩,cap,rfl,hl,fun _=>⟨g,0,rfl,fun j c x _ hx2=>?_⟩⟩;have hlt:j * 4+c<(rowE l).length:=(List.getElem?_eq_some_iff.1 hx2).1
 have:=h.cellAt (j * 4+c) (by rw[a0K]at hlt;omega);rw[Nat.zero_add,this,hx2]
theorem ListAt.keep{w w':World}{v:Value}{l:List Ent}(h:ListAt w v l)(hk:∀k,v.ownBlock=some k->w'.heap[k]? =w.heap[k]?):ListAt w' v l:=by
 refine⟨h.1,?_⟩;rcases h.2 with hn|⟨g,cap,cur,rfl,hbg,hg,hrest⟩
 ·exact .inl hn
 exact .inr ⟨g,cap,cur,rfl,hbg,(hk g rfl).trans hg,hrest⟩
theorem ListAt.lt{w:World}{v:Value}{l:List Ent}(h:ListAt w v l){k:Nat}(hk:v.ownBlock=some k):k<w.heap.size:=by
 rcases h.2 with⟨rfl,_⟩|⟨g,cap,cur,rfl,_,hg,_⟩
 ·simp[Value.ownBlock]at hk
 obtain rfl:g=k:=by simpa [Value.ownBlock]using hk
 exact(Array.getElem?_eq_some_iff.1 hg).1
def blks(v0 v1 v2 v3:Value):List Nat:=v0.ownBlock.toList++(v1.ownBlock.toList++(v2.ownBlock.toList++v3.ownBlock.toList))
def BookAt(w:World)(K:Nat)(F:List Nat)(b:Book):Prop:=
 ∃v0 v1 v2 v3:Value,w.heap[K]? =some (.cells #[v0,v1,v2,v3] 96 (0,0))/\ListAt w v0 (b 0)/\ListAt w v1 (b 1)/\ListAt w v2 (b 2)/\ListAt w v3 (b 3)/\F=blks v0 v1 v2 v3/\F.Nodup
theorem BookAt.lt{w:World}{K:Nat}{F:List Nat}{b:Book}(h:BookAt w K F b){k:Nat}(hk:k∈F):k<w.heap.size:=by
 obtain⟨v0,v1,v2,v3,_,h0,h1,h2,h3,rfl,_⟩:=h;simp only[blks,List.mem_append,Option.mem_toList]at hk;rcases hk with hk|hk|hk|hk
 ·exact h0.lt hk
 ·exact h1.lt hk
 ·exact h2.lt hk
 exact h3.lt hk
theorem BookAt.keep{w w':World}{K:Nat}{F:List Nat}{b:Book}(h:BookAt w K F b)(hk:∀k,k=K\/k∈F->w'.heap[k]? =w.heap[k]?):BookAt w' K F b:=by
 obtain⟨v0,v1,v2,v3,hK,h0,h1,h2,h3,rfl,hn⟩:=h
 exact⟨v0,v1,v2,v3,(hk K (.inl rfl)).trans hK,h0.keep (fun k e=>hk k (.inr (by simp[blks,e]))),h1.keep (fun k e=>hk k (.inr (by simp[blks,e]))),
  h2.keep (fun k e=>hk k (.inr (by simp[blks,e]))),h3.keep (fun k e=>hk k (.inr (by simp[blks,e]))),rfl,hn⟩
def PostAt(w:World)(P:Nat)(F:List Nat)(n:Nat)(b:Book):Prop:=
 ∃(K:Nat) (G:List Nat),w.heap[P]? =some (.cells #[.pointer (some ⟨K,0,none⟩),.int .i64 n] 81 (0,0))/\BookAt w K G b/\F=P::K::G
theorem PostAt.keep{w w':World}{P n:Nat}{F:List Nat}{b:Book}(h:PostAt w P F n b)(hk:∀k∈F,w'.heap[k]? =w.heap[k]?):PostAt w' P F n b:=by
 obtain⟨K,G,hP,hB,rfl⟩:=h;exact⟨K,G,(hk P (by simp)).trans hP,hB.keep (fun k hk2=>hk k (by rcases hk2 with rfl|h<;>simp[*])),rfl⟩
theorem PostAt.lt{w:World}{P n:Nat}{F:List Nat}{b:Book}(h:PostAt w P F n b){k:Nat}(hk:k∈F):k<w.heap.size:=by
 obtain⟨K,G,hP,hB,rfl⟩:=h;rcases List.mem_cons.1 hk with rfl|hk
 ·exact(Array.getElem?_eq_some_iff.1 hP).1
 rcases List.mem_cons.1 hk with rfl|hk
 ·obtain⟨_,_,_,_,hK,_⟩:=hB;exact(Array.getElem?_eq_some_iff.1 hK).1
 exact hB.lt hk
theorem PostAt.off{w w':World}{P n:Nat}{F G:List Nat}{b:Book}(h:PostAt w P F n b)(ho:Off G w w')(hd:∀k∈F,k∉G):PostAt w' P F n b:=
 h.keep fun k hk=>ho.block k (h.lt hk) (hd k hk)
theorem PostAt.below{w w':World}{P n:Nat}{F:List Nat}{b:Book}(h:PostAt w P F n b)(hb:Below w.heap.size w w'):PostAt w' P F n b:=
 h.keep fun k hk=>hb.block k (h.lt hk)
end Go.Proofs.YtdfkaijeppdhaaaGreatDoor
namespace Go.Proofs.YtdfkaijeppdhaaaGreatDoor
open Go
def betw(a b c:Int):Bool:=decide (a<=b)&&decide (b<=c)
theorem betw_iff(a b c:Int):betw a b c=true↔a<=b/\b<=c:=by simp[betw]
theorem a4O(a b c:Int):betw a b c=false↔b<a\/c<b:=by rw[<-Bool.not_eq_true,betw_iff];omega
def a0W(r:Nat):Bool:=decide ((r:Int)<32)||decide (126<(r:Int))
def a0S(r:Nat):Bool:=decide ((r:Int)<97)||decide (122<(r:Int))
def a0g(s:ByteArray):Bool:=decide (s.size<=60)&& !(s.data.toList.any fun c=>a0W c.toNat)
def a01(s:ByteArray):Bool:=betw 1 s.size 8&& !(s.data.toList.any fun c=>a0S c.toNat)
theorem ba_ext{s t:ByteArray}(h:s.data.toList=t.data.toList):s=t:=by
 cases s;cases t
 simp only[ByteArray.mk.injEq];exact Array.toList_inj.1 h
def bsB(l:List UInt8):ByteArray:=⟨l.toArray⟩
theorem a0N(l:List UInt8):(bsB l).data.toList=l:=rfl
theorem a3C(s:ByteArray):bsB s.data.toList=s:=ba_ext rfl
theorem a8Y{l m:List UInt8}(h:bsB l=bsB m):l=m:=by rw[<-a0N l,h];rfl
theorem ba_take(s:ByteArray)(i:Nat):s.extract 0 i=bsB (s.data.toList.take i):=by
 apply ba_ext;simp[ByteArray.data_extract,bsB]
theorem ba_drop(s:ByteArray)(i:Nat):s.extract i s.size=bsB (s.data.toList.drop i):=by
 apply ba_ext;simp only[ByteArray.data_extract,Array.toList_extract,List.extract_eq_take_drop,bsB];rw[List.take_of_length_le];simp
def itoaB(n:Int):ByteArray:=⟨(Lib.itoa n).toArray⟩
def a0j(c:UInt8):Nat->List UInt8->List (List UInt8)
 |_,[]=>[[]]
 |0,l=>[l]
 |k+1,b::r=>if b==c then []::a0j c k r else match a0j c (k+1) r with
  |[]=>[[b]]
  |x::xs=>(b::x)::xs
theorem a4o(c:UInt8)(k:Nat)(l:List UInt8):a0j c k l≠[]:=by
 cases l with
 |nil=>cases k<;>simp[a0j]
 | cons b r=>
  cases k with
  |zero=>simp[a0j]
  |succ k=>
   unfold a0j;split
   ·simp
   split<;>simp
theorem a27(c:UInt8)(l:List UInt8):a0j c 0 l=[l]:=by cases l<;>rfl
theorem a5a(c:UInt8)(k:Nat):∀l:List UInt8,(Lib.indexByte l c= -1/\a0j c (k+1) l=[l])\/(∃i:Nat,Lib.indexByte l c=i/\i<l.length/\a0j c (k+1) l=l.take i::a0j c k (l.drop (i+1)))
 |[]=>.inl ⟨rfl,rfl⟩
 | b::r=>by
  by_cases h:b=c
  ·subst h;exact .inr ⟨0,by simp[Lib.indexByte],by simp,by simp[a0j]⟩
  have hb:(b==c)=false:=by simpa using h
  rcases a5a c k r with⟨h1,h2⟩|⟨i,h1,h2,h3⟩
  ·exact .inl ⟨by simp[Lib.indexByte,hb,h1],by simp[a0j,hb,h2]⟩
  refine .inr ⟨i+1,?_,by simp[h2],?_⟩
  ·unfold Lib.indexByte;rw[hb,h1];have:((i:Int)== -1)=false:=by simp
   simp[this]
  rw[show a0j c (k+1) (b::r)=match a0j c (k+1) r with|[]=>[[b]]|x::xs=>(b::x)::xs by simp[a0j,hb],h3];simp
def a34(c:UInt8)(k:Nat)(s:ByteArray):List ByteArray:=(a0j c k s.data.toList).map bsB
theorem af5(c:UInt8)(k:Nat)(s:ByteArray):a34 c k s≠[]:=fun h=>a4o c k s.data.toList (List.map_eq_nil_iff.1 h)
theorem a9m(c:UInt8):∀(k:Nat) (s:ByteArray),Lib.splitB ⟨#[c]⟩ 0 k s=a34 c k s
 |0,s=>by unfold a34;rw[a27];simp[Lib.splitB,a3C]
 |k+1,s=>by
  have hi:Lib.indexB s ⟨#[c]⟩=Lib.indexByte s.data.toList c:=Lib.index_one _ _;unfold a34;rcases a5a c k s.data.toList with⟨h1,h2⟩|⟨i,h1,h2,h3⟩
  ·rw[Lib.splitB_miss _ _ _ _ (hi.trans h1),h2];simp[a3C]
  rw[Lib.splitB_hit _ _ _ _ i (hi.trans h1),h3,List.map_cons,a9m c k,Nat.add_zero,ba_take,show (⟨#[c]⟩:ByteArray).size=1 from rfl,ba_drop];rfl
theorem a9n(c:UInt8):∀(f:Nat) (l:List UInt8),l.length<f->Lib.countFrom [c] f l=l.count c
 |0,l,h=>by omega
 | f +1,l,h=>by
  unfold Lib.countFrom;rw[Lib.index_one];rcases a5a c 0 l with⟨h1,h2⟩|⟨i,h1,h2,h3⟩
  ·rw [h1]
   have hn:c∉l:=fun hm=>by
    clear h h2;induction l with
    |nil=>simp at hm
    | cons b r ih=>
     unfold Lib.indexByte at h1;split at h1
     ·simp at h1
     rename_i hb
     split at h1
     ·rename_i hr
      rcases List.mem_cons.1 hm with rfl|hm
      ·simp at hb
      exact ih (by simpa using hr) hm
     have:=Lib.indexByte_ge r c;omega
   rw[List.count_eq_zero.2 hn];rfl
  rw[h1];have hne:((i:Int)== -1)=false:=by simp
  have hsp:l=l.take i++(c::l.drop (i+1)):=by
   have hget:l[i]'h2=c/\c∉l.take i:=by
    clear h hne h3;induction l generalizing i with
    |nil=>simp at h2
    | cons b r ih=>
     unfold Lib.indexByte at h1;split at h1
     ·rename_i hb
      have:i=0:=by omega
      subst this;simp at hb⊢;exact hb
     rename_i hb
     split at h1
     ·omega
     rename_i hr
     have hr':Lib.indexByte r c≠ -1:=by simpa using hr
     obtain⟨j,rfl⟩:∃j,i=j+1:=⟨i-1,by have:=Lib.indexByte_ge r c;omega⟩
     have:=ih j (by omega) (by simpa using h2);refine⟨by simpa using this.1,?_⟩;simp only[List.take_succ_cons,List.mem_cons,not_or];exact⟨fun e=>hb (by simp[e]),this.2⟩
   conv=>lhs;rw[<-List.take_append_drop i l]
   rw[List.drop_eq_getElem_cons h2,hget.1]
  have hnt:(l.take i).count c=0:=by
   refine List.count_eq_zero.2 fun hm=>?_;clear h hne h3 hsp;induction l generalizing i with
   |nil=>simp at h2
   | cons b r ih=>
    unfold Lib.indexByte at h1;split at h1
    ·have:i=0:=by omega
     subst this;simp at hm
    rename_i hb
    split at h1
    ·omega
    rename_i hr
    have hr':Lib.indexByte r c≠ -1:=by simpa using hr
    obtain⟨j,rfl⟩:∃j,i=j+1:=⟨i-1,by have:=Lib.indexByte_ge r c;omega⟩
    rw[List.take_succ_cons,List.mem_cons]at hm;rcases hm with rfl|hm
    ·simp at hb
    exact ih j (by omega) (by simpa using h2) hm
  rw[hne];simp only[Bool.false_eq_true,if_false,Int.toNat_natCast,List.length_cons,List.length_nil,Nat.zero_add];rw[a9n c f _ (by rw[List.length_drop];omega)];conv=>rhs;rw[hsp]
  rw[List.count_append,hnt,List.count_cons_self];omega
theorem a7M(s:ByteArray)(c:UInt8):Lib.countB s ⟨#[c]⟩=s.data.toList.count c:=a9n c _ _ (Nat.lt_succ_self _)
def splitA(c:UInt8)(s:ByteArray):List ByteArray:=a34 c (s.data.toList.count c) s
theorem adr(s:ByteArray)(c:UInt8):Lib.splitB ⟨#[c]⟩ 0 (Lib.countB s ⟨#[c]⟩) s=splitA c s:=by rw[a7M,a9m];rfl
theorem a5b(c:UInt8):∀l:List UInt8,(a0j c (l.count c) l).length=l.count c+1
 |[]=>rfl
 | b::r=>by
  by_cases hb:b=c
  ·subst hb;rw[List.count_cons_self];simp only[a0j,BEq.rfl,if_true,List.length_cons];rw[a5b b r]
  have hbc:(b==c)=false:=by simpa using hb
  rw[List.count_cons_of_ne hb];have ih:=a5b c r;cases h0:r.count c with
  |zero=>rw[a27];rfl
  |succ m=>
   rw[h0]at ih;simp only[a0j,hbc,Bool.false_eq_true,if_false];generalize a0j c (m+1) r=q at *;cases q with
   |nil=>simp at ih
   |cons x xs=>simpa using ih
theorem splitA_len(c:UInt8)(s:ByteArray):(splitA c s).length=s.data.toList.count c+1:=by unfold splitA a34;rw[List.length_map,a5b]
theorem a9o(c:UInt8)(s:ByteArray):splitA c s≠[]:=af5 _ _ _
theorem a3u(c:UInt8):∀(l:List UInt8) (k:Nat),Lib.join (a0j c k l) [c]=l
 |[],k=>by cases k<;>rfl
 |b::r,0=>by rw[a27,Lib.join_one]
 | b::r,k+1=>by
  by_cases hb:b=c
  ·subst hb;simp only[a0j,BEq.rfl,if_true];have ih:=a3u b r k;rw[Lib.join_cons];cases hq:a0j b k r with
   |nil=>exact absurd hq (a4o _ _ _)
   |cons x xs=>
    rw[hq,Lib.join_cons]at ih;simp only[Lib.joinTail,List.map_cons,List.flatten_cons,List.nil_append,List.cons_append]at ih⊢;rw[ih]
  have hbc:(b==c)=false:=by simpa using hb
  have ih:=a3u c r (k+1);simp only[a0j,hbc,Bool.false_eq_true,if_false];cases hq:a0j c (k+1) r with
  |nil=>exact absurd hq (a4o _ _ _)
  |cons x xs=>
   rw[hq,Lib.join_cons]at ih;rw[Lib.join_cons,List.cons_append,ih]
theorem ac4(c:UInt8)(k:Nat)(l x:List UInt8)(xs:List (List UInt8))(h:a0j c k l=x::xs)(hx:xs≠[]):l=x++c::Lib.join xs [c]:=by
 have:=a3u c l k;rw[h,Lib.join_cons]at this;obtain⟨y,ys,rfl⟩:∃y ys,xs=y::ys:=by cases xs with|nil=>exact absurd rfl hx|cons y ys=>exact⟨y,ys,rfl⟩
 rw[<-this,Lib.join_cons];simp[Lib.joinTail]
end Go.Proofs.YtdfkaijeppdhaaaGreatDoor
namespace Go.Proofs.YtdfkaijeppdhaaaGreatDoor
open Go
def noE:Ent:=(0,0,0,⟨#[]⟩)
def emp:ByteArray:=⟨#[]⟩
theorem a1v(u:Nat):∀x∈Lib.decDigits u,48<=x.toNat/\x.toNat<=57:=by
 induction u using Nat.strongRecOn with
 | _ u ih=>
  intro x hx;rw[Lib.decDigits]at hx
  have one:∀d,d<10->48<=(UInt8.ofNat (48+d)).toNat/\(UInt8.ofNat (48+d)).toNat<=57:=fun d hd=>by
   rw[UInt8.toNat_ofNat'];omega
  split at hx
  ·rename_i h
   have:x=UInt8.ofNat (48+u):=by simpa using hx
   rw[this];exact one u h
  rename_i h
  rcases List.mem_append.1 hx with hx|hx
  ·exact ih (u / 10) (by omega) x hx
  have:x=UInt8.ofNat (48+u % 10):=by simpa using hx
  rw[this];exact one (u % 10) (by omega)
theorem a9p(n:Int):∀x∈Lib.itoa n,x.toNat=45\/48<=x.toNat/\x.toNat<=57:=by
 intro x hx;unfold Lib.itoa at hx;split at hx
 ·rcases List.mem_cons.1 hx with rfl|hx
  ·exact .inl rfl
  exact .inr (a1v _ x hx)
 exact .inr (a1v _ x hx)
theorem nDigits_le:∀(k u:Nat),u<10^(k+1)->Lib.nDigits u<=k+1
 |0,u,h=>by rw[Lib.nDigits_small (by simpa using h)];exact Nat.le_refl _
 |k+1,u,h=>by
  by_cases h1:u<10
  ·rw[Lib.nDigits_small h1];omega
  rw[Lib.nDigits_big h1];have:=nDigits_le k (u / 10) (by rw[Nat.pow_succ]at h;omega);omega
theorem af6{n:Int}(h0: -9999<=n)(h1:n<=9999):(Lib.itoa n).length<=5:=by
 unfold Lib.itoa;split
 ·rw[List.length_cons,Lib.decDigits_length];have:=nDigits_le 3 n.natAbs (by omega);omega
 rw[Lib.decDigits_length];have:=nDigits_le 3 n.toNat (by omega);omega
theorem itoa_len{n:Int}(h0: -1000000000<=n)(h1:n<=1000000000):(Lib.itoa n).length<=11:=by
 unfold Lib.itoa;split
 ·rw[List.length_cons,Lib.decDigits_length];have:=nDigits_le 9 n.natAbs (by omega);omega
 rw[Lib.decDigits_length];have:=nDigits_le 9 n.toNat (by omega);omega
theorem a2g(u:Nat):Lib.decDigits u≠[]:=by
 intro h;have:=Lib.decDigits_length u;rw[h]at this;have:=Lib.nDigits_pos u;simp at *;omega
def numV(s:ByteArray):Option Int:=match Lib.atoiAll s.data.toList with
 | .ok v=>if decide (itoaB v=s)&&betw (-9999) v 9999 then some v else none
 |_=>none
theorem a2h{s:ByteArray}{v:Int}(h:numV s=some v):s=itoaB v/\ -9999<=v/\v<=9999:=by
 unfold numV at h;split at h
 ·split at h
  ·rename_i hc
   rw[Bool.and_eq_true,decide_eq_true_eq,betw_iff]at hc;simp only[Option.some.injEq]at h;subst h;exact⟨hc.1.symm,hc.2⟩
  cases h
 cases h
def allS{α β:Type}(f:α->Option β):List α->Option (List β)
 |[]=>some []
 |x::xs=>match f x,allS f xs with
  |some y,some ys=>some (y::ys)
  |_,_=>none
theorem allS_snoc{α β:Type}(f:α->Option β)(xs:List α)(x:α):allS f (xs++[x])=match allS f xs,f x with
  |some ys,some y=>some (ys++[y])
  |_,_=>none:=by
 induction xs with
 |nil=>simp only[List.nil_append,allS];cases f x<;>rfl
 |cons z zs ih=>
  rw[List.cons_append,allS,ih];cases h1:f z<;>cases h2:allS f zs<;>cases h3:f x<;>simp[allS,h1,h2]
theorem allS_bad{α β:Type}(f:α->Option β)(xs:List α){x:α}(hx:x∈xs)(h:f x=none):allS f xs=none:=by
 induction xs with
 |nil=>simp at hx
 |cons z zs ih=>
  rcases List.mem_cons.1 hx with rfl|hx
  ·simp[allS,h]
  rw[allS,ih hx];cases f z<;>rfl
theorem allS_len{α β:Type}(f:α->Option β):∀(xs:List α) (ys:List β),allS f xs=some ys->ys.length=xs.length
 |[],ys,h=>by simp only[allS,Option.some.injEq]at h;subst h;rfl
 |x::xs,ys,h=>by
  rw[allS]at h;cases h1:f x<;>cases h2:allS f xs<;>simp[h1,h2]at h
  subst h;simp[allS_len f xs _ h2]
def a0i(l:List ByteArray):ByteArray:=bsB (Lib.join (l.map (·.data.toList)) [32])
inductive Cmd where
 |put (name text:ByteArray)
 |drop (name:ByteArray)
 |add (name:ByteArray) (n:Int)
 |stock (name:ByteArray)
 |share (n:Int) (names:List ByteArray)
 |asked (k:Nat) (names:List ByteArray) (ns:List Int)
def Cmd.deed:Cmd->Bool
 | .put .. =>true
 | .drop .. =>true
 | .add .. =>true
 |_=>false
def putW:ByteArray:=⟨#[112,117,116]⟩
def dropW:ByteArray:=⟨#[100,114,111,112]⟩
def stockW:ByteArray:=⟨#[115,116,111,99,107]⟩
def addW:ByteArray:=⟨#[97,100,100]⟩
def shareW:ByteArray:=⟨#[115,104,97,114,101]⟩
def textW:ByteArray:=⟨#[116,101,120,116]⟩
def beatW:ByteArray:=⟨#[98,101,97,116]⟩
def farW:ByteArray:=⟨#[102,97,114]⟩
def driftW:ByteArray:=⟨#[100,114,105,102,116]⟩
def a2v(w:ByteArray):Option (Nat×Nat×Nat):=
 if w=textW then some (0,1,0)else if w=beatW then some (1,1,0)else if w=farW then some (2,2,0)else if w=driftW then some (3,1,2)else none
def a1x(w:ByteArray)(rest:List ByteArray):Option Cmd:=match a2v w with
 |none=>none
 |some (k,many,nums)=>if rest.length≠many+nums then none else
  match (rest.take many).all a01,allS numV (rest.drop many)with
  |true,some ns=>some (.asked k (rest.take many) ns)
  |_,_=>none
def a0B(w r0:ByteArray)(rs:List ByteArray)(line:ByteArray):Option Cmd:=
 if w=putW then (if a01 r0&& !(a0i rs).data.toList.isEmpty&&a0g line then some (.put r0 (a0i rs))else none)
 else if w=dropW then (if decide (rs=[])&&a01 r0 then some (.drop r0)else none)
 else if w=stockW then (if decide (rs=[])&&a01 r0 then some (.stock r0)else none)
 else if w=addW then (match allS numV rs with
  |some [n]=>if a01 r0 then some (.add r0 n)else none
  |_=>none)
 else if w=shareW then (match numV r0 with
  |some n=>if rs.all a01&&betw 1 rs.length 8 then some (.share n rs)else none
  |none=>none)
 else a1x w (r0::rs)
def a02(line:ByteArray):Option Cmd:=match splitA 32 line with
 |w::r0::rs=>a0B w r0 rs line
 |_=>none
theorem a0T(s:ByteArray):a0g s=true↔s.size<=60/\∀c∈s.data.toList,32<=c.toNat/\c.toNat<=126:=by
 unfold a0g;rw[Bool.and_eq_true,decide_eq_true_eq,Bool.not_eq_true',List.any_eq_false];refine and_congr_right fun _=>forall_congr' fun c=>forall_congr' fun _=>?_;unfold a0W;rw[Bool.not_eq_true,Bool.or_eq_false_iff,decide_eq_false_iff_not,decide_eq_false_iff_not];omega
theorem a4I(s:ByteArray):a01 s=true↔1<=s.size/\s.size<=8/\∀c∈s.data.toList,97<=c.toNat/\c.toNat<=122:=by
 unfold a01;rw[Bool.and_eq_true,betw_iff,Bool.not_eq_true',List.any_eq_false,and_assoc];refine and_congr (by omega) (and_congr (by omega) (forall_congr' fun c=>forall_congr' fun _=>?_));unfold a0S;rw[Bool.not_eq_true,Bool.or_eq_false_iff,decide_eq_false_iff_not,decide_eq_false_iff_not];omega
theorem a1J(s:ByteArray):a4n s=a0g s:=by
 rw[Bool.eq_iff_iff,a0T];unfold a4n;rw[Bool.and_eq_true,decide_eq_true_eq,List.all_eq_true];refine and_congr_right fun _=>forall_congr' fun c=>forall_congr' fun _=>?_;rw[Bool.and_eq_true,decide_eq_true_eq,decide_eq_true_eq]
theorem a03(s:ByteArray):s.size=s.data.toList.length:=by simp
theorem a2D{s w:ByteArray}{rs:List ByteArray}(h:splitA 32 s=w::rs)(hr:rs≠[]):s.data.toList=w.data.toList++32::(a0i rs).data.toList:=by
 unfold splitA a34 at h;obtain⟨x,xs,hq,hx,hxs⟩:=List.map_eq_cons_iff.1 h;have:=ac4 32 _ _ x xs hq (by rintro rfl;simp at hxs;exact hr hxs);rw[this,<-hx,<-hxs];simp[a0i,bsB,List.map_map,Function.comp_def]
theorem a4p(r:ByteArray):a0i [r]=r:=by unfold a0i;rw[List.map_singleton,Lib.join_one];exact a3C r
theorem a5c(r r2:ByteArray)(rs:List ByteArray):(a0i (r::r2::rs)).data.toList=r.data.toList++32::(a0i (r2::rs)).data.toList:=by
 unfold a0i;rw[a0N,a0N,List.map_cons,List.map_cons,Lib.join_cons,Lib.join_cons];simp[Lib.joinTail]
theorem aaz{s:ByteArray}{a b:List UInt8}(h:s.data.toList=a++32::b)(hl:a.length+b.length+1<=60)(ha:∀c∈a,32<=c.toNat/\c.toNat<=126)(hb:∀c∈b,32<=c.toNat/\c.toNat<=126):a0g s=true:=by
 rw[a0T,a03,h];refine⟨by simp;omega,fun c hc=>?_⟩;rcases List.mem_append.1 hc with hc|hc
 ·exact ha c hc
 rcases List.mem_cons.1 hc with rfl|hc
 ·decide
 exact hb c hc
theorem a2T{s:ByteArray}{c:Cmd}(h:a02 s=some c)(hd:c.deed=true):a0g s=true:=by
 unfold a02 at h;split at h
 ·rename_i w r0 rs hs
  unfold a0B at h;split at h
  ·split at h
   ·rename_i hc
    rw[Bool.and_eq_true]at hc;exact hc.2
   cases h
  split at h
  ·rename_i hw
   split at h
   ·rename_i hc
    rw[Bool.and_eq_true,decide_eq_true_eq,a4I]at hc;obtain⟨rfl,h1,h2,h3⟩:=hc;have he:=a2D hs (by simp);rw[a4p]at he;subst hw;exact aaz he (by have h4:dropW.data.toList.length=4:=rfl;have h5:=a03 r0;omega) (by decide) (fun c hc=>by have:=h3 c hc;omega)
   cases h
  split at h
  ·split at h
   ·cases h;cases hd
   cases h
  split at h
  ·rename_i hw
   split at h
   ·rename_i n hn
    split at h
    ·rename_i hc
     rw[a4I]at hc;obtain⟨h1,h2,h3⟩:=hc
     obtain⟨r1,rfl⟩:∃r1,rs=[r1]:=by
      have:=allS_len _ _ _ hn;match rs,this with
      |[r],_=>exact⟨r,rfl⟩
     have hn1:numV r1=some n:=by
      unfold allS at hn;cases h4:numV r1 with
      |none=>simp[h4]at hn
      |some v=>simpa [h4,allS]using hn
     obtain⟨e1,b1,b2⟩:=a2h hn1;have he:=a2D hs (by simp);rw[a5c,a4p]at he;subst hw;have l1:=af6 b1 b2;have e2:r1.data.toList=Lib.itoa n:=by rw[e1];rfl
     rw[e2]at he;refine aaz (a:=addW.data.toList) (b:=r0.data.toList++32::Lib.itoa n) he (by have h4:addW.data.toList.length=3:=rfl;have h5:=a03 r0;rw[List.length_append,List.length_cons];omega) (by decide) (fun c hc=>?_);rcases List.mem_append.1 hc with hc|hc
     ·have:=h3 c hc;omega
     rcases List.mem_cons.1 hc with rfl|hc
     ·decide
     have:=a9p n c hc;omega
    cases h
   cases h
  split at h
  ·split at h
   ·split at h
    ·cases h;cases hd
    cases h
   cases h
  unfold a1x at h;split at h
  ·cases h
  split at h
  ·cases h
  split at h
  ·cases h;cases hd
  cases h
 cases h
structure Kn where
 txt:ByteArray->Option ByteArray
 stk:ByteArray->Int
def kn0:Kn:=⟨fun _=>none,fun _=>0⟩
def upd{α:Type}(f:ByteArray->α)(x:ByteArray)(v:α):ByteArray->α:=fun y=>if y=x then v else f y
theorem a5d{α:Type}(f:ByteArray->α)(x:ByteArray)(v:α):upd f x v x=v:=by simp[upd]
theorem a5T{α:Type}(f:ByteArray->α){x y:ByteArray}(v:α)(h:y≠x):upd f x v y=f y:=by simp[upd,h]
def sayB:Cmd->Kn->(ByteArray×Int)×Kn
 | .put n t,k=>((t,0),⟨upd k.txt n (some t),k.stk⟩)
 | .drop n,k=>match k.txt n with
  |none=>((emp,5),k)
  |some s=>((s,0),⟨upd k.txt n none,k.stk⟩)
 | .add n m,k=>((itoaB (k.stk n+m),0),⟨k.txt,upd k.stk n (k.stk n+m)⟩)
 |_,k=>((emp,0),k)
def a0D(k:Kn)(s:ByteArray):Kn:=match a02 s with
 |some c=>if c.deed then (sayB c k).2 else k
 |none=>k
def a1i(k:Kn)(l:List Ent):Kn:=l.foldl (fun k e=>a0D k (a05 e)) k
def a06(l:List Ent):Kn:=a1i kn0 l
theorem ads(l:List Ent)(e:Ent):a06 (l++[e])=a0D (a06 l) (a05 e):=by unfold a06 a1i;rw[List.foldl_append];rfl
def newE(b:Book)(n:Nat)(line:ByteArray):Ent:=((n:Int),((b n).length:Int)+1,cntB b+1,line)
def a1n(b:Book)(n:Nat)(e:Ent):Book:=setB b n (b n++[e])
def doB(b:Book)(n:Nat)(line:ByteArray):ByteArray×Int×Book:=match a02 line with
 |none=>(emp,100,b)
 |some c=>if c.deed=false then (emp,100,b)else
  if 60<=(b n).length\/1000000<=cntB b then (emp,4,b)else
  if (sayB c (a06 (allB b))).1.2=0 then ((sayB c (a06 (allB b))).1.1,0,a1n b n (newE b n line))else (emp,(sayB c (a06 (allB b))).1.2,b)
theorem a5U(l:List Ent)(e:Ent):a0k (l++[e])=eCnt e:=by unfold a0k;simp
theorem a5e{i:Nat}{l:List Ent}(h:ListOk i l):0<=a0k l/\a0k l<=1000000:=by
 unfold a0k;cases hl:l.getLast? with
 |none=>simp
 |some e=>have:=h.mem (List.mem_of_getLast? hl);simp;omega
theorem ac5{i:Nat}{l:List Ent}(h:ListOk i l){e:Ent}(he:e∈l):eCnt e<=a0k l:=by
 obtain⟨j,hj,rfl⟩:=List.getElem_of_mem he
 have hl:a0k l=eCnt (l[l.length-1]'(by omega)):=by
  unfold a0k;rw[List.getLast?_eq_getElem?,List.getElem?_eq_getElem (by omega)]
 rw[hl];by_cases hjl:j=l.length-1
 ·subst hjl;exact Int.le_refl _
 exact Int.le_of_lt (List.pairwise_iff_getElem.1 h.asc j (l.length-1) hj (by omega) (by omega))
theorem a3f{b:Book}(hb:a08 b):0<=cntB b/\cntB b<=1000000:=by
 have h0:=a5e (hb 0 (by omega));have h1:=a5e (hb 1 (by omega));have h2:=a5e (hb 2 (by omega));have h3:=a5e (hb 3 (by omega));unfold cntB;omega
theorem a6W(b:Book){i:Nat}(hi:i<4):a0k (b i)<=cntB b:=by
 unfold cntB;rcases (show i=0\/i=1\/i=2\/i=3 by omega)with rfl|rfl|rfl|rfl<;>omega
theorem ac6{i:Nat}{l:List Ent}(h:ListOk i l){e:Ent}(hlen:l.length<60)(h1:a04 e=i)(h2:eNum e=(l.length:Int)+1)(h3:1<=eCnt e)(h4:eCnt e<=1000000)(h5:a4n (a05 e)=true)(h6:a0k l<eCnt e):ListOk i (l++[e]):=by
 refine⟨by simp;omega,fun j hj=>?_,List.pairwise_append.2 ⟨h.asc,List.pairwise_singleton _ _,fun a ha c hc=>?_⟩⟩
 ·by_cases hjl:j<l.length
  ·rw[List.getElem_append_left hjl];exact h.own j hjl
  have hjl2:j=l.length:=by simp at hj;omega
  subst hjl2;simp only[List.getElem_append_right (Nat.le_refl _),Nat.sub_self,List.getElem_cons_zero];exact⟨h1,by simpa using h2,h3,h4,h5⟩
 have:c=e:=by simpa using hc
 subst this;have:=ac5 h ha;omega
theorem aiJ{b:Book}(hb:a08 b){n:Nat}{l:List Ent}(hl:ListOk n l):a08 (setB b n l):=fun i hi=>by
 by_cases h:i=n
 ·subst h;rw[a5S];exact hl
 rw[a58 _ _ h];exact hb i hi
theorem ahc{b:Book}(hb:a08 b){n:Nat}(hn:n<4){line:ByteArray}(h1:(b n).length<60)(h2:cntB b<1000000)(h3:a0g line=true):a08 (a1n b n (newE b n line)):=by
 have hc:=a3f hb;have hl:=a6W b hn;exact aiJ hb (ac6 (hb n hn) h1 rfl rfl (by show 1<=cntB b+1;omega) (by show cntB b+1<=1000000;omega) (by rw[a1J];exact h3) (by show a0k (b n)<cntB b+1;omega))
theorem af7{b:Book}(hb:a08 b){n:Nat}(hn:n<4)(line:ByteArray):a08 (doB b n line).2.2:=by
 unfold doB;split
 ·exact hb
 rename_i c hp
 split
 ·exact hb
 rename_i hd
 split
 ·exact hb
 rename_i hlim
 split
 ·exact ahc hb hn (by omega) (by omega) (a2T hp (by simpa using hd))
 exact hb
theorem ahd{i:Nat}{l m:List Ent}(hl:ListOk i l)(hm:ListOk i m):ListOk i (a18 l m):=by unfold a18;split<;>assumption
theorem ahe{b o c:Book}(hb:a08 b)(ho:a08 o)(h:a3t b o=some c):a08 c:=by
 unfold a3t at h;split at h
 ·simp only[Option.some.injEq]at h;subst h;exact fun i hi=>ahd (hb i hi) (ho i hi)
 cases h
end Go.Proofs.YtdfkaijeppdhaaaGreatDoor
namespace Go.Proofs.YtdfkaijeppdhaaaGreatDoor
open Go
theorem adt(b:Book)(i:Nat):a1g b (fun _=>0) i=b i:=by
 unfold a1g;rw[show (min (max 0 (0:Int)) ((b i).length:Int)).toNat=0 by omega,List.drop_zero]
theorem a9q(b:Book):catB b (fun _=>0)=b 0++(b 1++(b 2++b 3)):=by unfold catB;simp only[adt]
theorem a5V(b:Book):(allB b).Perm (b 0++(b 1++(b 2++b 3))):=by
 have:=a2S (catB b fun _=>0);rw[a9q]at this;unfold allB a33;rw[a9q];exact this
theorem ahf{b:Book}{e:Ent}(h:e∈allB b):∃i,i<4/\e∈b i:=by
 have:=(a5V b).mem_iff.1 h
 simp only[List.mem_append]at this;rcases this with h|h|h|h
 ·exact⟨0,by omega,h⟩
 ·exact⟨1,by omega,h⟩
 ·exact⟨2,by omega,h⟩
 exact⟨3,by omega,h⟩
def lenB(b:Book):Nat:=(b 0).length+(b 1).length+(b 2).length+(b 3).length
theorem a10(b:Book):(allB b).length=lenB b:=by
 rw[(a5V b).length_eq];unfold lenB;simp;omega
theorem a1w{b:Book}(hb:a08 b):lenB b<=240:=by
 have h0:=(hb 0 (by omega)).len
 have h1:=(hb 1 (by omega)).len
 have h2:=(hb 2 (by omega)).len
 have h3:=(hb 3 (by omega)).len
 unfold lenB;omega
theorem ahg{l:List Ent}(h:Asc l):Keys l:=h.imp fun hlt hk=>by unfold eLt at hlt;omega
theorem a9r{l m:List Ent}(hp:l.Perm m)(h:Keys l):Keys m:=(List.Perm.pairwise_iff (fun {a b} (hk:¬(eCnt a=eCnt b/\a04 a=a04 b)) h2=>hk ⟨h2.1.symm,h2.2.symm⟩) hp).1 h
theorem ac7{b:Book}{m:List Ent}(hm:Asc m)(hp:m.Perm (allB b)):m=allB b:=
 a6V hm (a9r (hp.trans (a2S _)) (ahg hm)) (hp.trans (a2S _))
theorem af8(l m:List Ent):(a18 l m).length=max l.length m.length:=by unfold a18;split<;>omega
def a6O(b o:Book):Book:=fun i=>a18 (b i) (o i)
theorem join_len(b o:Book)(i:Nat):(a6O b o i).length=max (b i).length (o i).length:=af8 _ _
def a5f(e:Ent):List UInt8:=Lib.itoa (a04 e)++32::(Lib.itoa (eNum e)++32::(Lib.itoa (eCnt e)++32::((a05 e).data.toList++[10])))
def a1o(l:List Ent):List UInt8:=l.flatMap a5f
def textB(b:Book):ByteArray:=bsB (a1o (allB b))
end Go.Proofs.YtdfkaijeppdhaaaGreatDoor
