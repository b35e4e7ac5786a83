/- Part of the proof. -/
import Derived.Test.YtdfkaijeppdhaaaGreatDoorZHs12
import Derived.Deep.AppendLies
set_option maxRecDepth 100000
set_option maxHeartbeats 8000000
set_option linter.unusedSimpArgs false
set_option linter.unusedVariables false

namespace Go.Proofs.YtdfkaijeppdhaaaGreatDoor
open Go.RowKit Go.Shelf
theorem EntsAt.keep{w w':World}{v:Value}{l:List Ent}(h:EntsAt w v l)(hk:0<l.length->∀k,v.ownBlock=some k->w'.heap[k]? =w.heap[k]?):EntsAt w' v l:=by
 obtain⟨a,cap,rfl,hl,h⟩:=h;refine⟨a,cap,rfl,hl,fun h0=>?_⟩;obtain⟨b,off,rfl,hc⟩:=h h0;exact⟨b,off,rfl,fun j c x hcc hx=>(World.cell?_of_block (hk h0 b rfl)).trans (hc j c x hcc hx)⟩
theorem EntsAt.lt{w:World}{v:Value}{l:List Ent}(h:EntsAt w v l)(h0:0<l.length){k:Nat}(hk:v.ownBlock=some k):k<w.heap.size:=by
 obtain⟨g,off,cap,rfl,h1,_⟩:=h.entry (k:=0) h0;have:g=k:=by simpa [Value.ownBlock]using hk
 subst this;rcases Nat.lt_or_ge g w.heap.size with h2|h2
 ·exact h2
 simp[World.cell?,apz h2]at h1
theorem a5H{W:World}{K:Nat}{a b c d f:Value}{t:TypeId}(h:W.heap[K]? =some (.cells #[a,b,c,d,f] t (0,0)))(i:Nat)(v:Value):(W.setCell ⟨K,i,none⟩ v).heap[K]? =some (.cells (#[a,b,c,d,f].setIfInBounds i v) t (0,0)):=by
 obtain⟨hlt,hk⟩:=aog.1 h;show (W.heap.modify K _)[K]? =_;rw[aoD (by rw[apm];exact hlt),ap0,hk];simp
def RpAt(w:World)(R n:Nat)(G:List Nat)(b:a00):Prop:=
 ∃vs:Nat->Value,RfAt w R n vs b/\∀i,i<4->0<(b i).length->∀k,(vs i).ownBlock=some k->k∈G
theorem RpAt.lt{w:World}{R n:Nat}{G:List Nat}{b:a00}(h:RpAt w R n G b):R<w.heap.size:=by obtain⟨vs,h1,_⟩:=h;exact h1.lt
theorem RpAt.keep{w w':World}{R n:Nat}{G:List Nat}{b:a00}(h:RpAt w R n G b)(hR:w'.heap[R]? =w.heap[R]?)(hG:∀k∈G,k<w.heap.size->w'.heap[k]? =w.heap[k]?):RpAt w' R n G b:=by
 obtain⟨vs,h1,h2⟩:=h;exact⟨vs,⟨hR.trans h1.1,fun i hi=>(h1.2 i hi).keep fun h0 k hk=>hG k (h2 i hi h0 k hk) ((h1.2 i hi).lt h0 hk)⟩,h2⟩
theorem RpAt.below{w w':World}{R n:Nat}{G:List Nat}{b:a00}(h:RpAt w R n G b)(hb:Below w.heap.size w w'):RpAt w' R n G b:=h.keep (hb.block _ h.lt) fun k _ hk=>hb.block k hk
theorem RpAt.type{w:World}{R n:Nat}{G:List Nat}{b:a00}(h:RpAt w R n G b):∃cs,w.heap[R]? =some (.cells cs 54 (0,0)):=by obtain⟨vs,h1,_⟩:=h;exact⟨_,h1.1⟩
def a3a(t:Nat):Prop:=a3e t\/t=54
structure Kid(base:Nat)(w w':World):Prop where
 os:w'.os=w.os
 tape:w'.tape=w.tape
 output:w'.output=w.output
 size:w.heap.size<=w'.heap.size
 block:∀k,k<w.heap.size->w'.heap[k]? =w.heap[k]? \/base<=k/\∃cs t fr,w.heap[k]? =some (.cells cs t fr)/\a3a t
theorem Kid.refl(base:Nat)(w:World):Kid base w w:=⟨rfl,rfl,rfl,aof _,fun _ _=>.inl rfl⟩
theorem Kid.trans{base:Nat}{a b c:World}(h:Kid base a b)(k:Kid base b c):Kid base a c:=
 ⟨k.os.trans h.os,k.tape.trans h.tape,k.output.trans h.output,aor h.size k.size,fun i hi=>by
  rcases h.block i hi with h1|h1
  ·rcases k.block i (aox hi h.size)with h2|⟨h2,cs,t,fr,h3,h4⟩
   ·exact .inl (h2.trans h1)
   exact .inr ⟨h2,cs,t,fr,h1.symm.trans h3,h4⟩
  exact .inr h1⟩
theorem Kid.of_below{base:Nat}{w w':World}(h:Below w.heap.size w w'):Kid base w w':=⟨h.os,h.tape,h.output,h.size,fun k hk=>.inl (h.block k hk)⟩
theorem Kid.of_kin{base:Nat}{w w':World}(h:Kin base w w'):Kid base w w':=⟨h.os,h.tape,h.output,h.size,fun k hk=>(h.block k hk).imp id fun⟨h1,cs,t,fr,h2,h3⟩=>⟨h1,cs,t,fr,h2,.inl h3⟩⟩
theorem Kid.of_off{base R:Nat}{w w':World}{cs:Array Value}{fr:Nat×Nat}(hR:w.heap[R]? =some (.cells cs 54 fr))(hb:base<=R)(ho:Off [R] w w'):Kid base w w':=
 ⟨ho.os,ho.tape,ho.output,ho.size,fun k hk=>by
  by_cases e:k=R
  ·subst e;exact .inr ⟨hb,_,_,_,hR,.inr rfl⟩
  exact .inl (ho.block k hk (by simp[e]))⟩
theorem Kid.below{base:Nat}{w w':World}(h:Kid base w w')(hb:base<=w.heap.size):Below base w w':=
 ⟨h.os,h.tape,h.output,h.size,fun k hk=>(h.block k (aox hk hb)).resolve_right fun h1=>om⟩
theorem Kid.keep{base:Nat}{w w':World}(h:Kid base w w'){k:Nat}{cs:Array Value}{t:TypeId}{fr:Nat×Nat}(hk:w.heap[k]? =some (.cells cs t fr))(ht:¬a3a t):w'.heap[k]? =some (.cells cs t fr):=by
 rcases h.block k (aog.1 hk).1 with h1|⟨_,cs',t',fr',h1,h2⟩
 ·exact h1.trans hk
 rw[hk]at h1;simp only[Option.some.injEq,Obj.cells.injEq]at h1;obtain⟨_,rfl,_⟩:=h1;exact absurd h2 ht
structure Duo(base:Nat)(w:World)(m:Nat)(P n:Nat->Nat)(B:Nat->a00)(r:Nat)(R k:Nat->Nat)(C:Nat->a00)(X:List Nat)(F G:Nat->List Nat):Prop where
 posts:Posts w m (fun i=>⟨P i,F i,n i,B i⟩)
 low:∀i,i<m->∀g∈F i,base<=g
 ok:∀i,i<m->a02 (B i)/\n i<4
 refs:∀j,j<r->RpAt w (R j) (k j) (G j) (C j)
 rlow:∀j,j<r->base<=R j
 rok:∀j,j<r->a02 (C j)/\k j<4
 one:∀i j,i<r->j<r->i≠j->R i≠R j
 off:∀j i,j<r->i<m->R j∉F i/\∀g∈G j,g∉F i
 roff:∀i j,i<r->j<r->R i∉G j
 lt:∀j,j<r->∀g∈G j,g<w.heap.size
 free:∀j,j<r->¬a1z (R j)
 size:base<=w.heap.size
 side:∀g∈X,g<w.heap.size/\¬a1z g/\(∀i,i<m->g∉F i)/\∀j,j<r->g≠R j/\g∉G j
def DuoL(base:Nat)(w:World)(X:List Nat)(m:Nat)(P n:Nat->Nat)(B:Nat->a00)(r:Nat)(R k:Nat->Nat)(C:Nat->a00):Prop:=∃F G,Duo base w m P n B r R k C X F G
section
variable{base:Nat}{w w':World}{m r:Nat}{P n R k:Nat->Nat}{B C:Nat->a00}{F G:Nat->List Nat}{X:List Nat}
theorem Duo.nil(hv:Vars w)(P n:Nat->Nat)(B:Nat->a00)(R k:Nat->Nat)(C:Nat->a00):DuoL w.heap.size w [] 0 P n B 0 R k C:=
 ⟨fun _=>[],fun _=>[],Posts.nil hv _,fun i h=>om,fun i h=>om,fun i h=>om,fun i h=>om,fun i h=>om,fun i j h=>om,fun i j h=>om,fun i j h=>om,fun i h=>om,fun i h=>om,aof _,fun g hg=>by simp at hg⟩
theorem DuoL.vars(h:DuoL base w X m P n B r R k C):Vars w:=by obtain⟨F,G,h⟩:=h;exact h.posts.vars
theorem DuoL.size(h:DuoL base w X m P n B r R k C):base<=w.heap.size:=by obtain⟨F,G,h⟩:=h;exact h.size
theorem DuoL.ok(h:DuoL base w X m P n B r R k C){i:Nat}(hi:i<m):a02 (B i):=by obtain⟨F,G,h⟩:=h;exact(h.ok i hi).1
theorem DuoL.rok(h:DuoL base w X m P n B r R k C){i:Nat}(hi:i<r):a02 (C i):=by obtain⟨F,G,h⟩:=h;exact(h.rok i hi).1
theorem DuoL.below(h:DuoL base w X m P n B r R k C)(hb:Below w.heap.size w w'):DuoL base w' X m P n B r R k C:=by
 obtain⟨F,G,h⟩:=h;exact⟨F,G,h.posts.below hb,h.low,h.ok,fun j hj=>(h.refs j hj).below hb,h.rlow,h.rok,h.one,h.off,h.roff,fun j hj g hg=>aox (h.lt j hj g hg) hb.size,h.free,aor h.size hb.size,fun g hg=>⟨aox (h.side g hg).1 hb.size,(h.side g hg).2⟩⟩
theorem al5(P n:Nat->Nat)(B:Nat->a00)(F:Nat->List Nat)(i P' n':Nat)(F':List Nat)(c:a00):a2X (fun i=>(⟨P i,F i,n i,B i⟩:Pst)) i ⟨P',F',n',c⟩=fun j=>⟨upN P i P' j,upN F i F' j,upN n i n' j,upN B i c j⟩:=by
 funext j;unfold a2X upN;split<;>rfl
theorem Duo.turn(h:Duo base w m P n B r R k C X F G){i:Nat}(hi:i<m){c:a00}(hc:a02 c){F':List Nat}(k1:PostAt w' (P i) F' (n i) c)(k2:a2q w (F i) F')(k3:Off (F i) w w'):
  DuoL base w' X m P n (upN B i c) r R k C/\Kid base w w':=by
 have ht:=h.posts.turn hi (p:=⟨P i,F',n i,c⟩) k1 k2 k3;rw[al5]at ht;have hP:upN P i (P i)=P:=by funext j;unfold upN;split<;>simp_all
 have hn:upN n i (n i)=n:=by funext j;unfold upN;split<;>simp_all
 rw[hP,hn]at ht;refine⟨⟨upN F i F',G,ht,fun j hj g hg=>?_,fun j hj=>?_,fun j hj=>?_,h.rlow,h.rok,h.one,fun j a hj ha=>?_,h.roff,fun j hj g hg=>aox (h.lt j hj g hg) k3.size,h.free,aor h.size k3.size,fun g hg=>?_⟩,Kid.of_kin (Kin.of_off (h.posts.post i hi) (h.low i hi) k3)⟩
 ·by_cases e:j=i
  ·subst e;rw[a0f]at hg;rcases k2 g hg with h5|h5
   ·exact h.low j hj g h5
   exact aor h.size h5
  rw[a0c _ _ e]at hg;exact h.low j hj g hg
 ·by_cases e:j=i
  ·subst e;rw[a0f];exact⟨hc,(h.ok j hj).2⟩
  rw[a0c _ _ e];exact h.ok j hj
 ·exact(h.refs j hj).keep (k3.block _ (h.refs j hj).lt (h.off j i hj hi).1) fun g hg hlt=>k3.block g hlt ((h.off j i hj hi).2 g hg)
 ·by_cases e:a=i
  ·subst e;rw[a0f];refine⟨fun hm=>?_,fun g hg hm=>?_⟩
   ·rcases k2 _ hm with h5|h5
    ·exact(h.off j a hj ha).1 h5
    have:=(h.refs j hj).lt;omega
   rcases k2 _ hm with h5|h5
   ·exact(h.off j a hj ha).2 g hg h5
   have:=h.lt j hj g hg;omega
  rw[a0c _ _ e];exact h.off j a hj ha
 obtain⟨s1,s2,s3,s4⟩:=h.side g hg;refine⟨aox s1 k3.size,s2,fun a ha hm=>?_,s4⟩;by_cases e:a=i
 ·subst e;rw[a0f]at hm;rcases k2 _ hm with h5|h5
  ·exact s3 a ha h5
  omega
 rw[a0c _ _ e]at hm;exact s3 a ha hm
theorem Duo.put(h:Duo base w m P n B r R k C X F G){m' i:Nat}(hm:∀j,j<m'->j=i\/j<m){c:a00}(hc:a02 c){P' n':Nat}{F':List Nat}(hn:n'<4)(k1:PostAt w' P' F' n' c)(k2:a2q w [] F')(hb:Below w.heap.size w w'):
  DuoL base w' X m' (upN P i P') (upN n i n') (upN B i c) r R k C/\Kid base w w':=by
 have hnew:∀g∈F',w.heap.size<=g:=fun g hg=>(k2 g hg).resolve_left oz
 have hP:∀j,j<m'->j≠i->j<m:=fun j hj he=>(hm j hj).resolve_left he
 refine⟨⟨upN F i F',G,⟨h.posts.vars.below hb,fun j hj=>?_,fun a b ha hb2 hab g hg=>?_,fun j hj g hg=>?_⟩,fun j hj g hg=>?_,fun j hj=>?_,fun j hj=>(h.refs j hj).below hb,h.rlow,h.rok,h.one,fun j a hj ha=>?_,h.roff,fun j hj g hg=>aox (h.lt j hj g hg) hb.size,h.free,aor h.size hb.size,fun g hg=>?_⟩,Kid.of_below hb⟩
 ·by_cases e:j=i
  ·subst e;simp only[a0f];exact k1
  simp only[a0c _ _ e];exact(h.posts.post j (hP j hj e)).below hb
 ·simp only at hg⊢;by_cases ea:a=i
  ·subst ea;rw[a0f]at hg;rw[a0c _ _ (Ne.symm hab)];intro h2;have h3:=h.posts.lt (hP b hb2 (Ne.symm hab)) h2;have h4:=hnew g hg;omega
  rw[a0c _ _ ea]at hg;by_cases eb:b=i
  ·subst eb;rw[a0f];intro h2;have h3:=h.posts.lt (hP a ha ea) hg;have h4:=hnew g h2;omega
  rw[a0c _ _ eb];exact h.posts.apart a b (hP a ha ea) (hP b hb2 eb) hab g hg
 ·simp only at hg;by_cases e:j=i
  ·subst e;rw[a0f]at hg;intro hv;have h3:=h.posts.vars.lt hv;have h4:=hnew g hg;omega
  rw[a0c _ _ e]at hg;exact h.posts.free j (hP j hj e) g hg
 ·by_cases e:j=i
  ·subst e;rw[a0f]at hg;exact aor h.size (hnew g hg)
  rw[a0c _ _ e]at hg;exact h.low j (hP j hj e) g hg
 ·by_cases e:j=i
  ·subst e;rw[a0f,a0f];exact⟨hc,hn⟩
  rw[a0c _ _ e,a0c _ _ e];exact h.ok j (hP j hj e)
 ·by_cases e:a=i
  ·subst e;rw[a0f];refine⟨fun h2=>?_,fun g hg h2=>?_⟩
   ·have h3:=(h.refs j hj).lt
    have h4:=hnew _ h2;omega
   have h3:=h.lt j hj g hg;have h4:=hnew _ h2;omega
  rw[a0c _ _ e];exact h.off j a hj (hP a ha e)
 obtain⟨s1,s2,s3,s4⟩:=h.side g hg;refine⟨aox s1 hb.size,s2,fun a ha hm=>?_,s4⟩;by_cases e:a=i
 ·subst e;rw[a0f]at hm;have:=hnew _ hm;omega
 rw[a0c _ _ e]at hm;exact s3 a (hP a ha e) hm
theorem Duo.rturn(h:Duo base w m P n B r R k C X F G){j:Nat}(hj:j<r){c:a00}(hc:a02 c){G':List Nat}(k1:RpAt w' (R j) (k j) G' c)(k2:∀g∈G',(∃i,i<r/\g∈G i)\/(w.heap.size<=g/\g<w'.heap.size))(k3:Off [R j] w w'):
  DuoL base w' X m P n B r R k (upN C j c)/\Kid base w w':=by
 have hkeep:∀g,g<w.heap.size->g≠R j->w'.heap[g]? =w.heap[g]? :=fun g hg he=>k3.block g hg (by simp[he]);obtain⟨cs,hcs⟩:=(h.refs j hj).type
 refine⟨⟨F,upN G j G',?_,h.low,h.ok,fun i hi=>?_,h.rlow,fun i hi=>?_,h.one,fun a b ha hb=>?_,fun a b ha hb hm=>?_,fun i hi g hg=>?_,h.free,aor h.size k3.size,fun g hg=>?_⟩,Kid.of_off hcs (h.rlow j hj) k3⟩
 ·exact h.posts.keep (fun g hg=>hkeep g (h.posts.vars.lt hg) fun e=>h.free j hj (e▸hg)) fun i hi g hg=>hkeep g (h.posts.lt hi hg) fun e=>(h.off j i hj hi).1 (e▸hg)
 ·by_cases e:i=j
  ·subst e;rw[a0f,a0f];exact k1
  rw[a0c _ _ e,a0c _ _ e];exact(h.refs i hi).keep (hkeep _ (h.refs i hi).lt (h.one i j hi hj e)) fun g hg hlt=>hkeep g hlt fun e2=>h.roff j i hj hi (e2▸hg)
 ·by_cases e:i=j
  ·subst e;rw[a0f];exact⟨hc,(h.rok i hi).2⟩
  rw[a0c _ _ e];exact h.rok i hi
 ·refine⟨(h.off a b ha hb).1,fun g hg=>?_⟩;by_cases e:a=j
  ·subst e;rw[a0f]at hg;rcases k2 g hg with⟨i,hi,h5⟩|⟨h5,_⟩
   ·exact(h.off i b hi hb).2 g h5
   intro h6;have:=h.posts.lt hb h6;omega
  rw[a0c _ _ e]at hg;exact(h.off a b ha hb).2 g hg
 ·by_cases e:b=j
  ·subst e;rw[a0f]at hm;rcases k2 _ hm with⟨i,hi,h5⟩|⟨h5,_⟩
   ·exact h.roff a i ha hi h5
   have:=(h.refs a ha).lt;omega
  rw[a0c _ _ e]at hm;exact h.roff a b ha hb hm
 ·by_cases e:i=j
  ·subst e;rw[a0f]at hg;rcases k2 g hg with⟨a,ha,h5⟩|⟨_,h5⟩
   ·exact aox (h.lt a ha g h5) k3.size
   exact h5
  rw[a0c _ _ e]at hg;exact aox (h.lt i hi g hg) k3.size
 obtain⟨s1,s2,s3,s4⟩:=h.side g hg;refine⟨aox s1 k3.size,s2,s3,fun i hi=>⟨(s4 i hi).1,fun hm=>?_⟩⟩;by_cases e:i=j
 ·subst e;rw[a0f]at hm;rcases k2 g hm with⟨a,ha,h5⟩|⟨h5,_⟩
  ·exact(s4 a ha).2 h5
  omega
 rw[a0c _ _ e]at hm;exact(s4 i hi).2 hm
theorem Duo.rput(h:Duo base w m P n B r R k C X F G){r' j:Nat}(hr:∀i,i<r'->i=j\/i<r){c:a00}(hc:a02 c){R' k':Nat}{G':List Nat}(hk:k'<4)(k1:RpAt w' R' k' G' c)(hR:w.heap.size<=R')(hRG:R'∉G')(k2:∀g∈G',(∃i,i<r/\g∈G i)\/(w.heap.size<=g/\g<w'.heap.size))(hb:Below w.heap.size w w'):
  DuoL base w' X m P n B r' (upN R j R') (upN k j k') (upN C j c)/\Kid base w w':=by
 have hP:∀i,i<r'->i≠j->i<r:=fun i hi he=>(hr i hi).resolve_left he
 have hlt:∀i,i<r->∀g∈G i,g≠R':=fun i hi g hg e=>by have:=h.lt i hi g hg;omega
 refine⟨⟨F,upN G j G',h.posts.below hb,h.low,h.ok,fun i hi=>?_,fun i hi=>?_,fun i hi=>?_,fun a b ha hb2 hab=>?_,fun a b ha hb2=>?_,fun a b ha hb2 hm=>?_,fun i hi g hg=>?_,fun i hi=>?_,aor h.size hb.size,fun g hg=>?_⟩,Kid.of_below hb⟩
 ·by_cases e:i=j
  ·subst e;simp only[a0f];exact k1
  simp only[a0c _ _ e];exact(h.refs i (hP i hi e)).below hb
 ·by_cases e:i=j
  ·subst e;rw[a0f];exact aor h.size hR
  rw[a0c _ _ e];exact h.rlow i (hP i hi e)
 ·by_cases e:i=j
  ·subst e;rw[a0f,a0f];exact⟨hc,hk⟩
  rw[a0c _ _ e,a0c _ _ e];exact h.rok i (hP i hi e)
 ·by_cases ea:a=j
  ·subst ea;rw[a0f,a0c _ _ (Ne.symm hab)];have:=(h.refs b (hP b hb2 (Ne.symm hab))).lt
   omega
  by_cases eb:b=j
  ·subst eb;rw[a0f,a0c _ _ ea];have:=(h.refs a (hP a ha ea)).lt
   omega
  rw[a0c _ _ ea,a0c _ _ eb];exact h.one a b (hP a ha ea) (hP b hb2 eb) hab
 ·by_cases e:a=j
  ·subst e;rw[a0f,a0f];refine⟨fun h2=>?_,fun g hg h2=>?_⟩
   ·have:=h.posts.lt hb2 h2;omega
   rcases k2 g hg with⟨i,hi,h5⟩|⟨h5,_⟩
   ·exact(h.off i b hi hb2).2 g h5 h2
   have:=h.posts.lt hb2 h2;omega
  rw[a0c _ _ e,a0c _ _ e];exact h.off a b (hP a ha e) hb2
 ·by_cases ea:a=j
  ·subst ea;rw[a0f]at hm;by_cases eb:b=a
   ·subst eb;rw[a0f]at hm;exact hRG hm
   rw[a0c _ _ eb]at hm;exact hlt b (hP b hb2 eb) _ hm rfl
  rw[a0c _ _ ea]at hm;by_cases eb:b=j
  ·subst eb;rw[a0f]at hm;rcases k2 _ hm with⟨i,hi,h5⟩|⟨h5,_⟩
   ·exact h.roff a i (hP a ha ea) hi h5
   have:=(h.refs a (hP a ha ea)).lt;omega
  rw[a0c _ _ eb]at hm;exact h.roff a b (hP a ha ea) (hP b hb2 eb) hm
 ·by_cases e:i=j
  ·subst e;rw[a0f]at hg;rcases k2 g hg with⟨a,ha,h5⟩|⟨_,h5⟩
   ·exact aox (h.lt a ha g h5) hb.size
   exact h5
  rw[a0c _ _ e]at hg;exact aox (h.lt i (hP i hi e) g hg) hb.size
 ·by_cases e:i=j
  ·subst e;rw[a0f];intro hv;have:=h.posts.vars.lt hv;omega
  rw[a0c _ _ e];exact h.free i (hP i hi e)
 obtain⟨s1,s2,s3,s4⟩:=h.side g hg;refine⟨aox s1 hb.size,s2,s3,fun i hi=>?_⟩;by_cases e:i=j
 ·subst e;rw[a0f,a0f];refine⟨om,fun hm=>?_⟩;rcases k2 g hm with⟨a,ha,h5⟩|⟨h5,_⟩
  ·exact(s4 a ha).2 h5
  omega
 rw[a0c _ _ e,a0c _ _ e];exact s4 i (hP i hi e)
theorem DuoL.alloc(h:DuoL base w X m P n B r R k C)(o:Obj):DuoL base (w.alloc o) (w.heap.size::X) m P n B r R k C:=by
 have hb:Below w.heap.size w (w.alloc o):=(aoi _ w).alloc (aof _) o
 obtain⟨F,G,h0⟩:=h;obtain⟨F',G',h1⟩:DuoL base (w.alloc o) X m P n B r R k C:=DuoL.below ⟨F,G,h0⟩ hb;refine⟨F,G,h0.posts.below hb,h0.low,h0.ok,fun j hj=>(h0.refs j hj).below hb,h0.rlow,h0.rok,h0.one,h0.off,h0.roff,fun j hj g hg=>aox (h0.lt j hj g hg) hb.size,h0.free,aor h0.size hb.size,fun g hg=>?_⟩;rcases aov.1 hg with rfl|hg
 ·refine⟨by simp,fun hv=>?_,fun i hi hm=>?_,fun j hj=>⟨fun e=>?_,fun hm=>?_⟩⟩
  ·have:=h0.posts.vars.lt hv;omega
  ·have:=h0.posts.lt hi hm;omega
  ·have:=(h0.refs j hj).lt;omega
  have:=h0.lt j hj _ hm;omega
 obtain⟨s1,s2⟩:=h0.side g hg;exact⟨aox s1 hb.size,s2⟩
theorem DuoL.aside(h:DuoL base w X m P n B r R k C){g:Nat}(hg:g∈X)(hsz:w.heap.size<=w'.heap.size)(hk:∀j,j<w.heap.size->j≠g->w'.heap[j]? =w.heap[j]?):DuoL base w' X m P n B r R k C:=by
 obtain⟨F,G,h0⟩:=h;obtain⟨s1,s2,s3,s4⟩:=h0.side g hg;refine⟨F,G,h0.posts.keep (fun j hj=>hk j (h0.posts.vars.lt hj) fun e=>s2 (e▸hj)) (fun i hi j hj=>hk j (h0.posts.lt hi hj) fun e=>s3 i hi (e▸hj)),h0.low,h0.ok,fun j hj=>(h0.refs j hj).keep (hk _ (h0.refs j hj).lt fun e=>(s4 j hj).1 e.symm) (fun q hq hlt=>hk q hlt fun e=>(s4 j hj).2 (e▸hq)),h0.rlow,h0.rok,h0.one,h0.off,h0.roff,fun j hj q hq=>aox (h0.lt j hj q hq) hsz,h0.free,aor h0.size hsz,fun q hq=>?_⟩;obtain⟨t1,t2⟩:=h0.side q hq;exact⟨aox t1 hsz,t2⟩
end
def abF(b:a00)(vs:Nat->Value):List Nat:=(List.range 4).flatMap fun i=>if 0<(b i).length then (vs i).ownBlock.toList else []
theorem mem_gBlk{b:a00}{vs:Nat->Value}{k:Nat}:k∈abF b vs↔∃i,i<4/\0<(b i).length/\(vs i).ownBlock=some k:=by
 unfold abF;simp only[List.mem_flatMap,List.mem_range];constructor
 ·rintro⟨i,hi,h⟩;split at h
  ·exact⟨i,hi,by assumption,by simpa using h⟩
  simp at h
 rintro⟨i,hi,h1,h2⟩;exact⟨i,hi,by rw[if_pos h1];simpa using h2⟩
theorem RfAt.rp{w:World}{P n:Nat}{vs:Nat->Value}{b:a00}(h:RfAt w P n vs b):RpAt w P n (abF b vs) b:=⟨vs,h,fun i hi h0 k hk=>mem_gBlk.2 ⟨i,hi,h0,hk⟩⟩
def a7b(w w':World)(b c:a00)(vs us:Nat->Value):Prop:=∀i,i<4->0<(c i).length->∀g,(us i).ownBlock=some g->(∃j,j<4/\0<(b j).length/\(vs j).ownBlock=some g)\/(w.heap.size<=g/\g<w'.heap.size)
def ajh(P n:Nat)(vs:Nat->Value)(b b2:a00)(w:World)(e:Ending)(w':World):Prop:=
 e= .returned (.bool (decide ((a0L b b2).1=0)))/\∃us,RfAt w' P n us (a0L b b2).2/\a7b w w' b (a0L b b2).2 vs us/\Off [P] w w'
theorem al6{b b2:a00}{k:Nat}(hk:k<4)(h:a0R (b k) (b2 k)=false):a0L b b2=(102,b):=by
 unfold a0L;rw[adG hk h]
theorem al7{b b2:a00}(h:∀i,i<4->a0R (b i) (b2 i)=true):a0L b b2=(0,a4l b b2):=by
 unfold a0L;rw[a9y h]
def a34(b b2:a00)(k:Nat):a00:=fun i=>if i<k then a4l b b2 i else b i
structure JnR(P n:Nat)(vs vs2:Nat->Value)(b b2:a00)(w:World)(k:Nat)(us:Nat->Value)(wr:World):Prop where
 post:RfAt wr P n us (a34 b b2 k)
 rows:a7b w wr b (a34 b b2 k) vs us
 off:Off [P] (w.alloc (.cells #[vs2 0,vs2 1,vs2 2,vs2 3] 52)) wr
theorem a9B(w:World)(e:TypeId)(base size:Nat){g:Nat}(h:w.heap[g]? =some (.cells #[] e (0,0)))(hb:base<=g):w.ownsRow base e size (.slice (some ⟨g,0,none⟩) 0 0) 0 []:=
 ⟨by simp,.inr ⟨g,0,#[],rfl,hb,h,aof _,aot _,by simp,by simp⟩⟩
theorem EntsAt.news{w:World}{g off cap:Nat}{l:List Ent}(h:EntsAt w (.slice (some ⟨g,off,none⟩) l.length cap) l):∀j u,(a0i l)[j]? =some u->w.cell? ((⟨g,off,none⟩:Addr).add j)=some u:=by
 intro j u hj;have hjl:=(api.1 hj).1
 rw[a18]at hjl;have h0:0<l.length:=om;obtain⟨a,cap',hv,_,hh⟩:=h;obtain⟨g',o',ha,hc⟩:=hh h0;simp only[Value.slice.injEq]at hv;obtain⟨rfl,_,rfl⟩:=hv;simp only[Option.some.injEq,Addr.mk.injEq,and_true]at ha;obtain⟨rfl,rfl⟩:=ha;have:=hc (j / 4) (j % 4) u (Nat.mod_lt _ om) (by rw[Nat.div_add_mod' j 4];exact hj);rw[Addr.add_lit];rw[Nat.add_assoc,Nat.div_add_mod' j 4]at this;exact this
theorem Off.alloc{F:List Nat}{a b:World}(h:Off F a b)(o:Obj):Off F a (b.alloc o):=h.trans (Off.of_below ((aoi _ _).alloc (aof _) o))
theorem Off.drew{F:List Nat}{a b:World}(h:Off F a b):Off F a b.drew:=h.trans (Off.of_below (aoi _ _).drew)
theorem Off.grown{F:List Nat}{a b c:World}(h:Off F a b){o:Option Nat}(hg:b.grownBy c o)(ho:∀k,o=some k->a.heap.size<=k):Off F a c:=
 ⟨hg.os.trans h.os,hg.tape.trans h.tape,hg.output.trans h.output,aor h.size hg.size,fun k hk hn=>(hg.block k (aox hk h.size) (fun e=>by have:=ho k e.symm;omega)).trans (h.block k hk hn)⟩
theorem Off.set{P:Nat}{a b:World}(h:Off [P] a b)(j:Nat)(v:Value):Off [P] a (b.setCell ⟨P,j,none⟩ v):=
 ⟨h.os,h.tape,h.output,by rw[aos];exact h.size,fun k hk hn=>(aok _ _ _ k (by simpa using hn)).trans (h.block k hk hn)⟩
theorem JnR.next{P n:Nat}{vs vs2:Nat->Value}{b b2:a00}{w wr W7:World}{k:Nat}{us:Nat->Value}(h:JnR P n vs vs2 b b2 w k us wr)(hk:k<4)(hPw:P<w.heap.size)(hne:∀i,i<4->0<(b i).length->(vs i).ownBlock≠some P)(hf:a0R (b k) (b2 k)=true)(hlt:(b k).length<(b2 k).length)
  {v':Value}(hv:EntsAt W7 v' (b2 k))(hnew:∀g,v'.ownBlock=some g->wr.heap.size<=g/\g<W7.heap.size)(ho:Off [] wr W7):
  JnR P n vs vs2 b b2 w (k+1) (a1m us k v') (W7.setCell ⟨P,1+k,none⟩ v')/\(W7.cell? ⟨P,1+k,none⟩=some (us k)/\W7.frozen? ⟨P,1+k,none⟩=false):=by
 have hPr:=h.post.lt;have hwr:w.heap.size+1<=wr.heap.size:=by have:=h.off.size;simpa using this
 have hsz:=ho.size;have hP7:W7.heap[P]? =some (.cells #[.int .i64 n,us 0,us 1,us 2,us 3] 54 (0,0)):=(ho.block P hPr oz).trans h.post.1
 have hjk:a34 b b2 (k+1) k=b2 k:=by
  unfold a34 a4l;rw[if_pos om,aci hf,if_pos hlt]
 have hjo:∀i,i≠k->a34 b b2 (k+1) i=a34 b b2 k i:=fun i hi=>by
  unfold a34;by_cases h1:i<k
  ·rw[if_pos h1,if_pos om]
  rw[if_neg h1,if_neg om]
 have hown:∀i,i<4->0<(a34 b b2 k i).length->∀g,(us i).ownBlock=some g->g≠P:=fun i hi h0 g hg e=>by
  subst e;rcases h.rows i hi h0 g hg with⟨j,hj,h1,h2⟩|⟨h1,_⟩
  ·exact hne j hj h1 h2
  omega
 refine⟨⟨⟨?_,fun i hi=>?_⟩,fun i hi h0 g hg=>?_,?_⟩,⟨?_,by simp[World.frozen?,hP7]⟩⟩
 ·rw[a5H hP7];congr 1;unfold a1m;rcases (show k=0\/k=1\/k=2\/k=3 by omega)with rfl|rfl|rfl|rfl<;>simp
 ·by_cases e:i=k
  ·subst e;rw[a0D,hjk];exact hv.keep fun _ g hg=>aok _ _ _ g (by have:=hnew g hg;show g≠P;omega)
  rw[a0m _ _ e,hjo i e];refine(h.post.2 i hi).keep fun h0 g hg=>?_
  have hgl:=(h.post.2 i hi).lt h0 hg
  exact(aok _ _ _ g (hown i hi h0 g hg)).trans (ho.block g hgl oz)
 ·by_cases e:i=k
  ·subst e;rw[a0D]at hg;have:=hnew g hg;refine .inr ⟨om,?_⟩
   rw[aos];omega
  rw[a0m _ _ e]at hg;rw[hjo i e]at h0;rcases h.rows i hi h0 g hg with h1|⟨h1,h2⟩
  ·exact .inl h1
  refine .inr ⟨h1,?_⟩
  rw[aos];omega
 ·exact(h.off.trans (ho.mono fun k hk=>by simp at hk)).set _ _
 rcases (show k=0\/k=1\/k=2\/k=3 by omega)with rfl|rfl|rfl|rfl<;>exact heap_cell hP7 rfl
theorem JnR.below{P n:Nat}{vs vs2:Nat->Value}{b b2:a00}{w wr w':World}{k:Nat}{us:Nat->Value}(h:JnR P n vs vs2 b b2 w k us wr)(hb:Below wr.heap.size wr w'):JnR P n vs vs2 b b2 w k us w':=by
 have hsz:=hb.size;refine⟨⟨(hb.block _ h.post.lt).trans h.post.1,fun i hi=>(h.post.2 i hi).below hb⟩,fun i hi h0 g hg=>?_,h.off.trans (Off.of_below hb)⟩;rcases h.rows i hi h0 g hg with h1|⟨h1,h2⟩
 ·exact .inl h1
 exact .inr ⟨h1,om⟩
theorem aaF{P:Program}{c:Code}{Q:Exit->Act->World->Prop}{a:Act}{w0:World}{n:Nat}(h:∀W,Below w0.heap.size w0 W->Code.wp P c Q a W):Code.wp P c Q a (w0.drewN n):=h _ (a0q (aoi _ _) _)
theorem JnR.skip{P n:Nat}{vs vs2:Nat->Value}{b b2:a00}{w wr:World}{k:Nat}{us:Nat->Value}(h:JnR P n vs vs2 b b2 w k us wr)(hf:a0R (b k) (b2 k)=true)(hlt:¬(b k).length<(b2 k).length)(q:Nat):JnR P n vs vs2 b b2 w (k+1) us (wr.drewN q):=by
 have hj:∀i,a34 b b2 (k+1) i=a34 b b2 k i:=fun i=>by
  unfold a34;by_cases h1:i<k
  ·rw[if_pos h1,if_pos om]
  rw[if_neg h1];by_cases h2:i=k
  ·subst h2;rw[if_pos om];unfold a4l;rw[aci hf,if_neg hlt]
  rw[if_neg om]
 have hb:Below wr.heap.size wr (wr.drewN q):=a0q (aoi _ _) q;have hsz:=hb.size;refine⟨⟨(hb.block _ h.post.lt).trans h.post.1,fun i hi=>?_⟩,fun i hi h0 g hg=>?_,h.off.trans (Off.of_below hb)⟩
 ·rw[hj];exact(h.post.2 i hi).below hb
 rw[hj]at h0;rcases h.rows i hi h0 g hg with h1|⟨h1,h2⟩
 ·exact .inl h1
 exact .inr ⟨h1,om⟩
open Lib (hid)
open Proofs.Tryz
theorem acj(P n:Nat)(vs:Nat->Value)(b:a00)(vs2:Nat->Value)(b2:a00)(w:World)(h:RfAt w P n vs b)(h2:∀i,i<4->EntsAt w (vs2 i) (b2 i))(hok:a02 b)(hok2:a02 b2)
  (hne:∀i,i<4->0<(b i).length->(vs i).ownBlock≠some P)(hne2:∀i,i<4->0<(b2 i).length->(vs2 i).ownBlock≠some P):
  Calls prog 27 #[.pointer (some ⟨P,0,none⟩),.agg #[vs2 0,vs2 1,vs2 2,vs2 3]] w (ajh P n vs b b2 w):=by
 obtain⟨wB,hwB⟩:∃wB,wB=w.alloc (.cells #[vs2 0,vs2 1,vs2 2,vs2 3] 52):=⟨_,rfl⟩
 have HBL:Hid (Below w.heap.size w wB):=hid (by rw[hwB];exact(aoi _ w).alloc (aof _) _);have HBX:Hid (wB.heap[w.heap.size]? =some (.cells #[vs2 0,vs2 1,vs2 2,vs2 3] 52 (0,0))):=hid (by rw[hwB];exact World.alloc_heap_new w _);have HRF:=hid (h.below HBL.out);have H2:=hid (fun i hi=>(h2 i hi).below HBL.out);have HOK:=hid hok;have HOK2:=hid hok2;have HNE:=hid hne;have HNE2:=hid hne2;have HPW:=hid h.lt;have HW:=hid hwB;clear h h2 hok hok2 hne hne2 hwB;go_enter func27,ntmps27;go_wp2_with fail
 rw[<-HW.out];go_loopw [5] (fun i wr=>∃k:Nat,k<=4/\i= .int .i64 k/\Hid (∀j,j<k->a0R (b j) (b2 j)=true)/\Hid (Below wB.heap.size wB wr)) (fun i _=>4-(intOf i).toNat)
 case atStart=>exact⟨0,om,rfl,hid (fun j hj=>om),hid (aoi _ _)⟩
 case round=>
  obtain⟨k,hk,rfl,HF,HBW⟩:=hrel;by_cases hlt:k<4
  ·have hlt2:(k:Int)<4:=om;have hge:(0:Int)<=(k:Int):=om;have HRK:=hid (HRF.out.below HBW.out);have HXK:=hid ((HBW.out.block _ (aog.1 HBX.out).1).trans HBX.out);have c1:∀W,KB wr W->W.cell? ⟨P,1+k,none⟩=some (vs k):=fun W hW=>keep_cell hW (HRK.out.cell hlt)
   have c2:∀W,KB wr W->W.cell? ⟨w.heap.size,k,none⟩=some (vs2 k):=fun W hW=>keep_cell hW (by
    rcases (show k=0\/k=1\/k=2\/k=3 by omega)with rfl|rfl|rfl|rfl<;>exact heap_cell HXK.out rfl)
   have HG1:=hid (fun W (hW:KB wr W)=>a99 (vs k) (vs2 k) (b k) (b2 k) W ((HRK.out.2 k hlt).below hW) (((H2.out k hlt).below HBW.out).below hW) (by have:=(HOK.out k hlt).len;omega));have HG2:=hid (fun W (hW:KB wr W)=>a99 (vs2 k) (vs k) (b2 k) (b k) W (((H2.out k hlt).below HBW.out).below hW) ((HRK.out.2 k hlt).below hW) (by have:=(HOK2.out k hlt).len;omega));have HFT:Hid (a0R (b k) (b2 k)=(decide (b k<+:b2 k)||decide (b2 k<+:b k))):=hid rfl;generalize decide (b k<+:b2 k)=q1 at *;generalize decide (b2 k<+:b k)=q2 at *
   have HNX:=hid (fun(hq:(q1||q2)=true)=>show∀j,j<k+1->a0R (b j) (b2 j)=true from fun j hj=>by
    by_cases e:j=k
    ·subst e;rw[HFT.out,hq]
    exact HF.out j om)
   have HNO:=hid (fun(hq:(q1||q2)=false)=>al6 (b:=b) (b2:=b2) hlt (by rw[HFT.out,hq]));generalize vs k=v1 at *;generalize vs2 k=v2 at *;cases q1 with
   |true=>
    go_wp2;refine wp_region_held_drew (S:=KB wr) ot (KB.drew (KB.refl _)) (fun hHeld=>?_);refine tk [0,1,2,3,4,5,6,7,8] ?_;repeat (refine tkC hHeld (h:=?_);apply exq;(· intro W3 hS3;go_simp;try rfl);try simp only[gS])
    with_reducible refine tkE ?_
    refine wpAnyH_ready (rs:=[9]) ot oz ?_;refine(AllReadyH.cons rfl (fun K hK=>?_) AllReadyH.nil);go_simp;refine(HG1.out _ hHeld).mono ?_
    rintro e w2 ⟨rfl,hb2⟩;have hk2:=KB.call (w:=wr) hHeld hb2;clear hb2;dsimp only;refine hK.out _ _ hk2 (fun hHeld=>?_);clear hK K hk2;try simp only[Act.put,apB,aoP,apd,aoF,aoU,aoN]
    refine tk [10,11] ?_;repeat (refine tkC hHeld (h:=?_);apply exq;(· intro W3 hS3;go_simp;try rfl);try simp only[gS])
    with_reducible refine tkE ?_
    refine tk [12,13,14,15,16,17,18,19,20,21,22] ?_;repeat (refine tkS hHeld (h:=?_);try simp only[gS])
    with_reducible refine tkE ?_
    refine tk [23] ?_;repeat (refine tkC hHeld (h:=?_);apply exq;(· intro W3 hS3;go_simp;try rfl);try simp only[gS])
    with_reducible refine tkE ?_
    refine wpAnyH_done ot ?_ _;try simp only[Exit.then]
    have HB5:=hid (HBW.out.trans (hHeld.mono HBW.out.size));clear hHeld;go_wp2;go_roundw
    case rel=>exact⟨k+1,om,by go_num,hid (HNX.out rfl),HB5⟩
    case measure=>simp[intOf];omega
   | false=>
    cases q2 with
    |true=>
     go_wp2;refine wp_region_held_drew (S:=KB wr) ot (KB.drew (KB.refl _)) (fun hHeld=>?_);refine tk [0,1,2,3,4,5,6,7,8] ?_;repeat (refine tkC hHeld (h:=?_);apply exq;(· intro W3 hS3;go_simp;try rfl);try simp only[gS])
     with_reducible refine tkE ?_
     refine wpAnyH_ready (rs:=[9]) ot oz ?_;refine(AllReadyH.cons rfl (fun K hK=>?_) AllReadyH.nil);go_simp;refine(HG1.out _ hHeld).mono ?_
     rintro e w2 ⟨rfl,hb2⟩;have hk2:=KB.call (w:=wr) hHeld hb2;clear hb2;dsimp only;refine hK.out _ _ hk2 (fun hHeld=>?_);clear hK K hk2;try simp only[Act.put,apB,aoP,apd,aoF,aoU,aoN]
     refine tk [10,11,12,13,14,15,16,17,18,19,20] ?_;repeat (refine tkC hHeld (h:=?_);apply exq;(· intro W3 hS3;go_simp;try rfl);try simp only[gS])
     with_reducible refine tkE ?_
     refine wpAnyH_ready (rs:=[21]) ot oz ?_;refine(AllReadyH.cons rfl (fun K hK=>?_) AllReadyH.nil);go_simp;refine(HG2.out _ hHeld).mono ?_
     rintro e w2 ⟨rfl,hb2⟩;have hk2:=KB.call (w:=wr) hHeld hb2;clear hb2;dsimp only;refine hK.out _ _ hk2 (fun hHeld=>?_);clear hK K hk2;try simp only[Act.put,apB,aoP,apd,aoF,aoU,aoN]
     refine tk [22,23] ?_;repeat (refine tkC hHeld (h:=?_);apply exq;(· intro W3 hS3;go_simp;try rfl);try simp only[gS])
     with_reducible refine tkE ?_
     refine wpAnyH_done ot ?_ _;try simp only[Exit.then]
     have HB5:=hid (HBW.out.trans (hHeld.mono HBW.out.size));clear hHeld;go_wp2;go_roundw
     case rel=>exact⟨k+1,om,by go_num,hid (HNX.out rfl),HB5⟩
     case measure=>simp[intOf];omega
    |false=>
     go_wp2;refine wp_region_held_drew (S:=KB wr) ot (KB.drew (KB.refl _)) (fun hHeld=>?_);refine tk [0,1,2,3,4,5,6,7,8] ?_;repeat (refine tkC hHeld (h:=?_);apply exq;(· intro W3 hS3;go_simp;try rfl);try simp only[gS])
     with_reducible refine tkE ?_
     refine wpAnyH_ready (rs:=[9]) ot oz ?_;refine(AllReadyH.cons rfl (fun K hK=>?_) AllReadyH.nil);go_simp;refine(HG1.out _ hHeld).mono ?_
     rintro e w2 ⟨rfl,hb2⟩;have hk2:=KB.call (w:=wr) hHeld hb2;clear hb2;dsimp only;refine hK.out _ _ hk2 (fun hHeld=>?_);clear hK K hk2;try simp only[Act.put,apB,aoP,apd,aoF,aoU,aoN]
     refine tk [10,11,12,13,14,15,16,17,18,19,20] ?_;repeat (refine tkC hHeld (h:=?_);apply exq;(· intro W3 hS3;go_simp;try rfl);try simp only[gS])
     with_reducible refine tkE ?_
     refine wpAnyH_ready (rs:=[21]) ot oz ?_;refine(AllReadyH.cons rfl (fun K hK=>?_) AllReadyH.nil);go_simp;refine(HG2.out _ hHeld).mono ?_
     rintro e w2 ⟨rfl,hb2⟩;have hk2:=KB.call (w:=wr) hHeld hb2;clear hb2;dsimp only;refine hK.out _ _ hk2 (fun hHeld=>?_);clear hK K hk2;try simp only[Act.put,apB,aoP,apd,aoF,aoU,aoN]
     refine tk [22,23] ?_;repeat (refine tkC hHeld (h:=?_);apply exq;(· intro W3 hS3;go_simp;try rfl);try simp only[gS])
     with_reducible refine tkE ?_
     refine wpAnyH_done ot ?_ _;try simp only[Exit.then]
     have HB5:=hid (HBW.out.trans (hHeld.mono HBW.out.size));clear hHeld;go_wp2;go_ret;have HJ:=HNO.out rfl;refine⟨by rw[HJ];rfl,vs,?_,?_,?_⟩
     ·rw[HJ];exact HRF.out.below HB5.out
     ·rw[HJ];exact fun i hi h0 g hg=>.inl ⟨i,hi,h0,hg⟩
     exact Off.of_below (HBL.out.trans (HB5.out.mono HBL.out.size))
  obtain rfl:k=4:=om;have HFA:Hid (∀i,i<4->a0R (b i) (b2 i)=true):=hid HF.out;have HJO:=hid (al7 HFA.out)
  have HJ0:Hid (JnR P n vs vs2 b b2 w 0 vs wr):=hid ⟨by
   have h9:=HRF.out.below HBW.out;exact⟨h9.1,fun i hi=>h9.2 i hi⟩,fun i hi h0 g hg=>.inl ⟨i,hi,h0,hg⟩,by rw[<-HW.out];exact Off.of_below HBW.out⟩
  obtain⟨i0,hi0,hz0,hz1,hz2⟩:=info_parts Tryz.infoEnt;clear HF HBW hk;rw[show ((4:Nat):Int)=4 from rfl];go_wp2;go_loopw [6] (fun i wr=>∃(k:Nat) (us:Nat->Value),k<=4/\i= .int .i64 k/\Hid (JnR P n vs vs2 b b2 w k us wr)) (fun i _=>4-(intOf i).toNat)
  case atStart=>exact⟨0,vs,om,rfl,HJ0⟩
  case round=>
   obtain⟨k,us,hk,rfl,HJ⟩:=hrel;by_cases hlt:k<4
   ·have hlt2:(k:Int)<4:=om;have hge:(0:Int)<=(k:Int):=om;have HOB:=hid (HJ.out.off);rw[<-HW.out]at HOB;have HXK:=hid ((HOB.out.block w.heap.size (aog.1 HBX.out).1 (by simp;have:=HPW.out;omega)).trans HBX.out)
    have HE2:Hid (EntsAt wr (vs2 k) (b2 k)):=hid ((H2.out k hlt).keep fun h0 g hg=>HOB.out.block g ((H2.out k hlt).lt h0 hg) (by
     have h9:=HNE2.out k hlt h0;rw[hg]at h9;simpa using h9))
    have c1:=HJ.out.post.cell hlt
    have c2:wr.cell? ⟨w.heap.size,k,none⟩=some (vs2 k):=by
     rcases (show k=0\/k=1\/k=2\/k=3 by omega)with rfl|rfl|rfl|rfl<;>exact heap_cell HXK.out rfl
    have HE1:=hid (HJ.out.post.2 k hlt);rw[show a34 b b2 k k=b k by unfold a34;rw[if_neg (Nat.lt_irrefl k)]]at HE1;obtain⟨a1,k1,hu⟩:=HE1.out.shape;obtain⟨a2,k2,hv2⟩:=HE2.out.shape;rw[hu]at c1;rw[hv2]at c2 HE2;have HU:=hid hu;have HFK:=hid (HFA.out k hlt);have hl2:=(HOK2.out k hlt).len
    obtain⟨n1,hn1⟩:∃n,n=(b k).length:=⟨_,rfl⟩
    obtain⟨n2,hn2⟩:∃n,n=(b2 k).length:=⟨_,rfl⟩
    have HN1:=hid hn1;have HN2:=hid hn2;rw[<-hn1]at c1 HU;rw[<-hn2]at c2 hl2;have HE2':Hid (EntsAt wr (.slice a2 n2 k2) (b2 k)):=hid (by rw[hn2];exact HE2.out);clear hn1 hn2 hu hv2 HE2 HE1;by_cases hl:n1<n2
    ·have hli:(n1:Int)<(n2:Int):=om
     obtain⟨g2,o2,rfl⟩:∃g2 o2,a2=some ⟨g2,o2,none⟩:=by
      obtain⟨g,o,c,hv,_⟩:=HE2'.out.entry (k:=0) (by rw[<-HN2.out];omega);simp only[Value.slice.injEq]at hv;exact⟨g,o,hv.1⟩
     go_wp2;go_quiet (fail)
     go_wp2;refine aaF (fun W5 hX5=>?_);have HJ5:=hid (HJ.out.below hX5);have HE5:=hid (HE2'.out.below hX5);have c1a:=keep_cell hX5 c1;have c2a:=keep_cell hX5 c2;have c2b:(W5.alloc (.cells #[] 43)).cell? ⟨w.heap.size,k,none⟩=some (.slice (some ⟨g2,o2,none⟩) n2 k2):=keep_cell ((aoi _ _).alloc (aof _) _) c2a
     clear c1 c2 hX5;obtain⟨W6,hW6⟩:∃W6,W6=(W5.alloc (.cells #[] 43)).drew:=⟨_,rfl⟩
     have HX6:Hid (Below W5.heap.size W5 W6):=hid (by rw[hW6];exact((aoi _ _).alloc (aof _) _).drew);have HNW:Hid (W6.heap[W5.heap.size]? =some (.cells #[] 43 (0,0))):=hid (by rw[hW6];exact World.alloc_heap_new W5 _);have HSZ6:Hid (W5.heap.size<W6.heap.size):=hid (aog.1 HNW.out).1
     have HAP:Hid (∀ty,∃v' W',(Builtin.append_ #[40,40] ty #[.slice (some ⟨W5.heap.size,0,none⟩) 0 0,.slice (some ⟨g2,o2,none⟩) n2 k2]).run prog W6= .ok v' W'/\
       (W'.ownsRow W5.heap.size 43 4 v' (0+n2) ([]++a0i (b2 k))/\W6.grownBy W' (Value.slice (some ⟨W5.heap.size,0,none⟩) 0 0).ownBlock)):=hid (fun ty=>by
      obtain⟨v',W',hrun,hown,hgr,_⟩:=run_append_own (P:=prog) (w:=W6) W5.heap.size 40 ty 43 i0 _ 4 40 underlying40 hi0 hz0 hz1 hz2 rfl ox (.slice (some ⟨W5.heap.size,0,none⟩) 0 0) 0 [] (a9B W6 _ _ 4 HNW.out (aof _)) ⟨g2,o2,none⟩ n2 k2 (a0i (b2 k)) (by rw[a18,HN2.out]) (by
       have h9:=(HE5.out.below HX6.out)
       rw[HN2.out]at h9;exact h9.news) (a3s _) (by unfold maxLen;omega) om (by have:=HSZ6.out;omega)
      exact⟨v',W',hrun,hown,hgr⟩)
     have HNX:=hid (fun(v':Value) (W7:World) (hR:W7.ownsRow W5.heap.size 43 4 v' (0+n2) ([]++a0i (b2 k))/\W6.grownBy W7 (Value.slice (some ⟨W5.heap.size,0,none⟩) 0 0).ownBlock)=>HJ5.out.next (v':=v') (W7:=W7) hlt HPW.out HNE.out HFK.out (by rw[<-HN1.out,<-HN2.out];exact hl)
      (by
       have h9:=a2l hR.1 (aot _);rw[ap5,aoM,HN2.out]at h9;exact ListAt.ents h9 (by rw[<-HN2.out];omega))
      (fun g hg=>hR.1.lt g hg)
      ((Off.of_below HX6.out).grown hR.2 (fun k e=>by
       have:k=W5.heap.size:=by simpa [Value.ownBlock]using e.symm
       omega)))
     rw[HU.out]at HNX;have HW6:=hid hW6;clear hW6
     go_region_law (first
      |((rw[<-HW6.out];refine a0F oy _ _ _ oy (.slice (some ⟨W5.heap.size,0,none⟩) 0 0) (.slice (some ⟨g2,o2,none⟩) n2 k2) oy oy (fun v' W'=>W'.ownsRow W5.heap.size 43 4 v' (0+n2) ([]++a0i (b2 k))/\W6.grownBy W' (Value.slice (some ⟨W5.heap.size,0,none⟩) 0 0).ownBlock) (HAP.out _) ?_;intro v' W7 hR;have HR:=hid (HNX.out v' W7 hR);obtain⟨va,vc,rfl⟩:=a5l hR.1;obtain⟨c7,f7⟩:=HR.out.2;clear hR))
      |fail)
     all_goals
      go_wp2;go_roundw
      case rel=>
       refine⟨k+1,a1m us k (.slice va n2 vc),om,by go_num,hid ?_⟩;have h9:=HR.out.1;rw[ap5]at h9;exact h9
      case measure=>simp[intOf];omega
    have hli:¬(n1:Int)<(n2:Int):=om;have HSK:=hid (fun q=>HJ.out.skip HFK.out (by rw[<-HN1.out,<-HN2.out];exact hl) q);go_wp2;go_quiet (fail)
    have HS2:=hid (HSK.out nq);go_wp2;go_roundw
    case rel=>exact⟨k+1,us,om,by go_num,HS2⟩
    case measure=>simp[intOf];omega
   obtain rfl:k=4:=om;go_wp2;go_ret;refine⟨by rw[HJO.out];rfl,us,?_,?_,?_⟩
   ·rw[HJO.out];have h9:=HJ.out.post;refine⟨h9.1,fun i hi=>?_⟩;have:=h9.2 i hi;unfold a34 at this;rw[if_pos hi]at this;exact this
   ·rw[HJO.out];intro i hi h0 g hg;exact HJ.out.rows i hi (by unfold a34;rw[if_pos hi];exact h0) g hg
   have h9:=HJ.out.off;exact(Off.of_below ((aoi _ w).alloc (aof _) _)).trans (h9.mono fun k hk=>.inl hk)
theorem a40:∀(l:List UInt8),(a09 l).1.length<=l.length/\(a09 l).2.1.length<=l.length
 |[]=>by simp[a09]
 |b::r=>by
  have:=a40 r;unfold a09;split<;>simp<;>omega
theorem bsB_size(l:List UInt8):(bsB l).size=l.length:=by rw[a05,a1t]
theorem a57(l:List UInt8)(w:World)(hl:l.length<=4000000000):Calls prog 67 #[.string (bsB l)] w (abE l w):=by
 have:=adQ (bsB l) w (by rw[bsB_size];exact hl);rwa[a1t]at this
def a5I(o:Option Nat):Nat:=o.getD 0
theorem amF(o:Option Nat):natV o= .tuple #[.int .i64 (a5I o:Nat),.bool o.isSome]:=by cases o<;>rfl
def adS(A R:ByteArray)(q:Bool)(w:World)(e:Ending)(w':World):Prop:=e= .returned (.tuple #[.string A,.string R,.bool q])/\Below w.heap.size w w'
def abG(p:Nat)(x:Bool)(w:World)(e:Ending)(w':World):Prop:=e= .returned (.tuple #[.int .i64 (p:Nat),.bool x])/\w=w'
def agS(x:Bool)(w:World)(e:Ending)(w':World):Prop:=e= .returned (.bool x)/\w=w'
theorem a68(l:List UInt8)(d:Nat)(w:World)(hd:d<=9)(hl:l.length<=4000000000):Calls prog 68 #[.string (bsB l),.int .i64 d] w (abG (a5I (a0A l d)) (a0A l d).isSome w):=by
 have:=a8f (bsB l) d w hd (by rw[bsB_size];exact hl);rw[a1t,amF]at this;exact this
theorem a8T{l:List UInt8}{k:Nat}:a5I (a0A l k)<10^k:=by
 cases h:a0A l k with
 |none=>exact Nat.pos_of_neZero _
 |some n=>exact(a7T h).2.1
end Go.Proofs.YtdfkaijeppdhaaaGreatDoor
