/- Part of the proof. -/
import Derived.Test.YtdfkaijeppdhaaaGreatDoorZHs15
set_option maxRecDepth 100000
set_option maxHeartbeats 8000000
set_option linter.unusedSimpArgs false
set_option linter.unusedVariables false

namespace Go.Proofs.YtdfkaijeppdhaaaGreatDoor
open Proofs.Tryz Go.RowKit Go.Shelf
section
variable{base:Nat}{w w':World}{m r:Nat}{P n R k:Nat->Nat}{B C:Nat->a00}{X:List Nat}
theorem DuoL.post(h:DuoL base w X m P n B r R k C){i:Nat}(hi:i<m):∃F,PostAt w (P i) F (n i) (B i):=by obtain⟨F,G,h0⟩:=h;exact⟨F i,h0.posts.post i hi⟩
theorem DuoL.ref(h:DuoL base w X m P n B r R k C){j:Nat}(hj:j<r):∃vs:Nat->Value,RfAt w (R j) (k j) vs (C j)/\∀i,i<4->0<(C j i).length->∀q,q<r->(vs i).ownBlock≠some (R q):=by
 obtain⟨F,G,h0⟩:=h;obtain⟨vs,h1,h2⟩:=h0.refs j hj;exact⟨vs,h1,fun i hi h3 q hq e=>h0.roff q j hq hj (h2 i hi h3 _ e)⟩
def a8V(base:Nat)(X:List Nat)(m:Nat)(P n:Nat->Nat)(B:Nat->a00)(r:Nat)(R k:Nat->Nat)(C:Nat->a00)(v:Value)(w:World)(e:Ending)(w':World):Prop:=e= .returned v/\DuoL base w' X m P n B r R k C/\Kid base w w'
theorem do_d(h:DuoL base w X m P n B r R k C){i:Nat}(hi:i<m)(line:ByteArray)(hs:line.size<=1000000):
  Calls prog 24 #[.pointer (some ⟨P i,0,none⟩),.string line] w (a8V base X m P n (upN B i (doB (B i) (n i) line).2.2) r R k C (.tuple #[.string (doB (B i) (n i) line).1,.int .i64 (doB (B i) (n i) line).2.1]) w):=by
 obtain⟨F,G,h0⟩:=h;have ho:=h0.ok i hi;refine(aiO (P i) (n i) ho.2 (F i) (B i) line hs w (h0.posts.post i hi) ho.1 h0.posts.vars (h0.posts.free i hi)).mono ?_
 rintro e w' ⟨rfl,F',k1,k2,k3⟩;exact⟨rfl,h0.turn hi (aa1 ho.1 ho.2 line) k1 k2 k3⟩
theorem anD(h:DuoL base w X m P n B r R k C){i j:Nat}(hi:i<m)(hj:j<m):
  Calls prog 22 #[.pointer (some ⟨P i,0,none⟩),.pointer (some ⟨P j,0,none⟩)] w (a8V base X m P n (upN B i (a0L (B i) (B j)).2) r R k C (.int .i64 (a0L (B i) (B j)).1) w):=by
 obtain⟨F,G,h0⟩:=h;refine(acd (P i) (n i) (F i) (B i) (P j) (n j) (F j) (B j) w (h0.posts.post i hi) (h0.posts.post j hj) (h0.ok i hi).1 (h0.ok j hj).1).mono ?_
 rintro e w' ⟨rfl,F',k1,k2,k3⟩;exact⟨rfl,h0.turn hi (a5C (h0.ok i hi).1 (h0.ok j hj).1) k1 k2 k3⟩
theorem a9C{F G:Nat->List Nat}(h0:Duo base w m P n B r R k C X F G){j:Nat}(hj:j<r){vs us:Nat->Value}{c:a00}(h2:∀i,i<4->0<(C j i).length->∀g,(vs i).ownBlock=some g->g∈G j)(hr:a7b w w' (C j) c vs us):
  ∀g∈abF c us,(∃i,i<r/\g∈G i)\/(w.heap.size<=g/\g<w'.heap.size):=fun g hg=>by
 obtain⟨i,hi,h3,h4⟩:=mem_gBlk.1 hg;rcases hr i hi h3 g h4 with⟨q,hq,h5,h6⟩|h5
 ·exact .inl ⟨j,hj,h2 q hq h5 g h6⟩
 exact .inr h5
theorem ao5(h:DuoL base w X m P n B r R k C){j:Nat}(hj:j<r)(line:ByteArray)(hs:line.size<=1000000):
  Calls prog 28 #[.pointer (some ⟨R j,0,none⟩),.string line] w (a8V base X m P n B r R k (upN C j (doB (C j) (k j) line).2.2) (.tuple #[.string (doB (C j) (k j) line).1,.int .i64 (doB (C j) (k j) line).2.1]) w):=by
 obtain⟨F,G,h0⟩:=h;have ho:=h0.rok j hj;obtain⟨vs,h1,h2⟩:=h0.refs j hj;refine(amK (R j) (k j) ho.2 vs (C j) line hs w h1 ho.1 (fun i hi h3 e=>h0.roff j j hj hj (h2 i hi h3 _ e))).mono ?_
 rintro e w' ⟨rfl,us,k1,k2,k3⟩;exact⟨rfl,h0.rturn hj (aa1 ho.1 ho.2 line) k1.rp (a9C h0 hj h2 k2) k3⟩
theorem amL(h:DuoL base w X m P n B r R k C){j l:Nat}(hj:j<r)(hl:l<r):∃vs:Nat->Value,RfAt w (R l) (k l) vs (C l)/\
  Calls prog 27 #[.pointer (some ⟨R j,0,none⟩),.agg #[vs 0,vs 1,vs 2,vs 3]] w (a8V base X m P n B r R k (upN C j (a0L (C j) (C l)).2) (.bool (decide ((a0L (C j) (C l)).1=0))) w):=by
 obtain⟨F,G,h0⟩:=h;have ho:=h0.rok j hj;obtain⟨vs,h1,h2⟩:=h0.refs j hj;obtain⟨us,h3,h4⟩:=h0.refs l hl;refine⟨us,h3,(acj (R j) (k j) vs (C j) us (C l) w h1 h3.2 ho.1 (h0.rok l hl).1 (fun i hi h5 e=>h0.roff j j hj hj (h2 i hi h5 _ e)) (fun i hi h5 e=>h0.roff j l hj hl (h4 i hi h5 _ e))).mono ?_⟩;rintro e w' ⟨rfl,us',k1,k2,k3⟩;exact⟨rfl,h0.rturn hj (a5C ho.1 (h0.rok l hl).1) k1.rp (a9C h0 hj h2 k2) k3⟩
theorem ao6(h:DuoL base w X m P n B r R k C){m' i:Nat}(hm:∀j,j<m'->j=i\/j<m)(q:Nat)(hq:q<4):
  Calls prog 34 #[.int .i64 q] w fun e w'=>∃P',e= .returned (.tuple #[.pointer (some ⟨P',0,none⟩),.int .i64 0])/\DuoL base w' X m' (upN P i P') (upN n i q) (upN B i a1G) r R k C/\Below w.heap.size w w':=by
 obtain⟨F,G,h0⟩:=h;refine(afL q hq w).mono ?_
 rintro e w' ⟨rfl,rfl⟩;have hb:Below w.heap.size w ((w.alloc (.cells #[.slice none 0 0,.slice none 0 0,.slice none 0 0,.slice none 0 0] 96)).alloc (.cells #[.pointer (some ⟨w.heap.size,0,none⟩),.int .i64 q] 81)):=((aoi _ _).alloc (aof _) _).alloc oz _
 exact⟨_,rfl,(h0.put hm a4b hq (adl q w) (fun g hg=>.inr (by simp at hg;omega)) hb).1,hb⟩
theorem anE(h:DuoL base w X m P n B r R k C){i l m':Nat}(hi:i<m)(hm:∀j,j<m'->j=l\/j<m):
  Calls prog 35 #[.pointer (some ⟨P i,0,none⟩)] w fun e w'=>∃P',e= .returned (.pointer (some ⟨P',0,none⟩))/\DuoL base w' X m' (upN P l P') (upN n l (n i)) (upN B l (B i)) r R k C/\Below w.heap.size w w':=by
 obtain⟨F,G,h0⟩:=h;have ho:=h0.ok i hi;refine(aiR (P i) (n i) (F i) (B i) w (h0.posts.post i hi) ho.1).mono ?_
 rintro e w' ⟨P',F',rfl,k1,k2,k3⟩;exact⟨P',rfl,(h0.put hm ho.1 ho.2 k1 k2 k3).1,k3⟩
theorem ajm(h:DuoL base w X m P n B r R k C){r' j:Nat}(hr:∀i,i<r'->i=j\/i<r)(q:Nat)(hq:q<4):
  Calls prog 46 #[.int .i64 q] w fun e w'=>∃R',e= .returned (.pointer (some ⟨R',0,none⟩))/\DuoL base w' X m P n B r' (upN R j R') (upN k j q) (upN C j a1G)/\Below w.heap.size w w':=by
 obtain⟨F,G,h0⟩:=h;refine(al3 q w).mono ?_
 rintro e w' ⟨rfl,rfl⟩;have hb:Below w.heap.size w (w.alloc (.cells #[.int .i64 q,.slice none 0 0,.slice none 0 0,.slice none 0 0,.slice none 0 0] 54)):=(aoi _ _).alloc (aof _) _
 have hrf:RfAt (w.alloc (.cells #[.int .i64 q,.slice none 0 0,.slice none 0 0,.slice none 0 0,.slice none 0 0] 54)) w.heap.size q (fun _=>.slice none 0 0) a1G:=
  ⟨World.alloc_heap_new w _,fun i hi=>(a2W _).ents (aot _)⟩
 have hg:abF a1G (fun _=>.slice none 0 0)=[]:=by
  apply List.eq_nil_iff_forall_not_mem.2;intro g hg;obtain⟨i,_,h3,_⟩:=mem_gBlk.1 hg;exact absurd h3 (Nat.lt_irrefl 0)
 refine⟨_,rfl,(h0.rput hr a4b hq hrf.rp (aof _) (by rw[hg];simp) (by rw[hg];simp) hb).1,hb⟩
theorem amM(h:DuoL base w X m P n B r R k C){j l r':Nat}(hj:j<r)(hr:∀i,i<r'->i=l\/i<r){vs:Nat->Value}(hv:RfAt w (R j) (k j) vs (C j)):
  DuoL base (w.alloc (.cells #[.int .i64 (k j:Nat),vs 0,vs 1,vs 2,vs 3] 54)) X m P n B r' (upN R l w.heap.size) (upN k l (k j)) (upN C l (C j)):=by
 obtain⟨F,G,h0⟩:=h;obtain⟨us,h1,h2⟩:=h0.refs j hj;have ho:=h0.rok j hj;have e:=h1.1;rw[hv.1]at e;simp only[Option.some.injEq,Obj.cells.injEq]at e;have e1:=e.1;simp only[Array.mk.injEq,List.cons.injEq,and_true,true_and]at e1
 have ev:∀i,i<4->vs i=us i:=fun i hi=>by
  rcases (show i=0\/i=1\/i=2\/i=3 by omega)with rfl|rfl|rfl|rfl
  ·exact e1.1
  ·exact e1.2.1
  ·exact e1.2.2.1
  exact e1.2.2.2
 have hb:Below w.heap.size w (w.alloc (.cells #[.int .i64 (k j:Nat),vs 0,vs 1,vs 2,vs 3] 54)):=(aoi _ _).alloc (aof _) _
 have hrf:RfAt (w.alloc (.cells #[.int .i64 (k j:Nat),vs 0,vs 1,vs 2,vs 3] 54)) w.heap.size (k j) vs (C j):=⟨World.alloc_heap_new w _,fun i hi=>(hv.2 i hi).below hb⟩
 refine(h0.rput (G':=abF (C j) vs) hr ho.1 ho.2 hrf.rp (aof _) (fun hm=>?_) (fun g hg=>?_) hb).1
 ·obtain⟨i,hi,h3,h4⟩:=mem_gBlk.1 hm;have:=(hv.2 i hi).lt h3 h4
  omega
 obtain⟨i,hi,h3,h4⟩:=mem_gBlk.1 hg;rw[ev i hi]at h4;exact .inl ⟨j,hj,h2 i hi h3 g h4⟩
theorem abH(h:DuoL base w X m P n B r R k C){j:Nat}(hj:j<r):Calls prog 30 #[.pointer (some ⟨R j,0,none⟩)] w (amz (a0z (C j)) w):=by
 obtain⟨vs,h1,_⟩:=h.ref hj;exact rtext_any _ _ vs _ w h1 (h.rok hj)
theorem anF(h:DuoL base w X m P n B r R k C){i:Nat}(hi:i<m):Calls prog 25 #[.pointer (some ⟨P i,0,none⟩)] w (a3t (a06 (B i)) w):=by
 obtain⟨F,h1⟩:=h.post hi;exact acb _ _ _ _ w h1 (h.ok hi)
theorem amN(h:DuoL base w X m P n B r R k C){j:Nat}(hj:j<r):Calls prog 42 #[.pointer (some ⟨R j,0,none⟩)] w (a3t (a06 (C j)) w):=by
 obtain⟨vs,h1,_⟩:=h.ref hj;exact a8g _ _ vs _ w h1 (h.rok hj)
theorem amO(h:DuoL base w X m P n B r R k C){i:Nat}(hi:i<m):Calls prog 23 #[.pointer (some ⟨P i,0,none⟩)] w fun e w'=>e= .returned (.int .i64 (a1f (B i)))/\w=w':=by
 obtain⟨F,h1⟩:=h.post hi;exact agF _ _ _ _ w h1 (h.ok hi)
theorem ala(h:DuoL base w X m P n B r R k C){j:Nat}(hj:j<r):Calls prog 61 #[.pointer (some ⟨R j,0,none⟩)] w fun e w'=>e= .returned (.int .i64 (a1f (C j)))/\w=w':=by
 obtain⟨vs,h1,_⟩:=h.ref hj;exact aaz _ _ vs _ w h1 (h.rok hj)
theorem alb(h:DuoL base w X m P n B r R k C){i:Nat}(hi:i<m):Calls prog 38 #[.pointer (some ⟨P i,0,none⟩)] w fun e w'=>e= .returned (.int .i64 (n i:Nat))/\w=w':=by
 obtain⟨F,h1⟩:=h.post hi;exact af7 _ _ _ _ w h1
theorem anG(h:DuoL base w X m P n B r R k C){i:Nat}(hi:i<m):Calls prog 21 #[.pointer (some ⟨P i,0,none⟩)] w (a74 (B i) w):=by
 obtain⟨F,h1⟩:=h.post hi;exact aiS _ _ _ _ w h1 (h.ok hi)
theorem amP(h:DuoL base w X m P n B r R k C){j:Nat}(hj:j<r):Calls prog 79 #[.pointer (some ⟨R j,0,none⟩)] w (a74 (C j) w):=by
 obtain⟨vs,h1,_⟩:=h.ref hj;exact ajk _ _ vs _ w h1 (h.rok hj)
theorem anH(h:DuoL base w X m P n B r R k C){i j:Nat}(hi:i<m)(hj:j<m):Calls prog 37 #[.pointer (some ⟨P i,0,none⟩),.pointer (some ⟨P j,0,none⟩)] w (a4A (decide (a0z (B i)=a0z (B j))) w):=by
 obtain⟨F,h1⟩:=h.post hi;obtain⟨F2,h2⟩:=h.post hj;exact aiX _ _ _ _ _ _ _ _ w h1 h2 (h.ok hi) (h.ok hj) h.vars
end
def ArrAt(w:World)(g:Nat)(t:TypeId)(P:Nat->Nat):Prop:=w.heap[g]? =some (.cells #[.pointer (some ⟨P 0,0,none⟩),.pointer (some ⟨P 1,0,none⟩),.pointer (some ⟨P 2,0,none⟩),.pointer (some ⟨P 3,0,none⟩)] t (0,0))
theorem ArrAt.cell{w:World}{g:Nat}{t:TypeId}{P:Nat->Nat}(h:ArrAt w g t P){i:Nat}(hi:i<4):w.cell? ⟨g,i,none⟩=some (.pointer (some ⟨P i,0,none⟩)):=by
 rcases (show i=0\/i=1\/i=2\/i=3 by omega)with rfl|rfl|rfl|rfl<;>exact heap_cell h rfl
theorem ArrAt.kid{base:Nat}{w w':World}{g:Nat}{t:TypeId}{P:Nat->Nat}(h:ArrAt w g t P)(hk:Kid base w w')(ht:¬a3a t):ArrAt w' g t P:=hk.keep h ht
theorem ArrAt.below{w w':World}{g:Nat}{t:TypeId}{P:Nat->Nat}(h:ArrAt w g t P)(hb:Below w.heap.size w w'):ArrAt w' g t P:=(hb.block g (aog.1 h).1).trans h
theorem a9D:¬a3a 45:=by unfold a3a a3e;decide
theorem a9E:¬a3a 47:=by unfold a3a a3e;decide
open Go
def a2Q:List UInt8->List UInt8->Nat
 |[],[]=>0
 |[],_::t=>1+a2Q [] t
 |_::s,[]=>1+a2Q s []
 |x::s,y::t=>min (min ((if x=y then 0 else 1)+a2Q s t) (1+a2Q s (y::t))) (1+a2Q (x::s) t)
termination_by s t=>s.length+t.length
theorem a6C:∀s t:List UInt8,a2Q s t<=s.length+t.length
 |[],[]=>by simp[a2Q]
 |[],_::t=>by have:=a6C [] t;simp only[a2Q,aow,aom]at *;omega
 |_::s,[]=>by have:=a6C s [];simp only[a2Q,aow,aom]at *;omega
 |x::s,y::t=>by
  have:=a6C (x::s) t;simp only[a2Q,aom]at *;omega
termination_by s t=>s.length+t.length
def cst(s t:List UInt8)(i k:Nat):Nat:=a2Q (s.drop i) (t.drop k)
theorem afY(s t:List UInt8):cst s t s.length t.length=0:=by unfold cst;simp[a2Q]
theorem alc{s t:List UInt8}{i:Nat}(hi:i<s.length):cst s t i t.length=1+cst s t (i+1) t.length:=by
 unfold cst;rw[aoL hi,List.drop_length,a2Q]
theorem ajn{s t:List UInt8}{k:Nat}(hk:k<t.length):cst s t s.length k=1+cst s t s.length (k+1):=by
 unfold cst;rw[aoL hk,List.drop_length,a2Q]
theorem ald{s t:List UInt8}{i k:Nat}(hi:i<s.length)(hk:k<t.length):cst s t i k=min (min ((if s[i]=t[k]then 0 else 1)+cst s t (i+1) (k+1)) (1+cst s t (i+1) k)) (1+cst s t i (k+1)):=by
 unfold cst;rw[aoL hi,aoL hk,a2Q]
theorem ajo(s t:List UInt8)(i k:Nat):cst s t i k<=s.length+t.length:=by
 have:=a6C (s.drop i) (t.drop k);unfold cst;simp only[aoG]at this;omega
structure Stp where
 edit:Nat
 i:Nat
 k:Nat
 cost:Nat
def a0t(s t:List UInt8)(i k:Nat):List Stp:=
 (if i<s.length/\k<t.length then [if s.getD i 0=t.getD k 0 then ⟨1,i+1,k+1,0⟩else ⟨2,i+1,k+1,1⟩]else [])++
 ((if i<s.length then [⟨3,i+1,k,1⟩]else [])++(if k<t.length then [⟨4,i,k+1,1⟩]else []))
def a1E(o:Option Nat)(n:Nat):Option Nat:=some (match o with
 |none=>n
 |some b=>if n<b then n else b)
def a1A(s t:List UInt8)(l:List Stp):Option Nat:=l.foldl (fun o x=>a1E o (cst s t x.i x.k+x.cost)) none
theorem a4n(s t:List UInt8)(l:List Stp)(x:Stp):a1A s t (l++[x])=a1E (a1A s t l) (cst s t x.i x.k+x.cost):=by simp[a1A,apl]
theorem afZ{s t:List UInt8}{i k:Nat}(hi:i<=s.length)(hk:k<=t.length):(a1A s t (a0t s t i k)).getD 0=cst s t i k:=by
 unfold a0t;by_cases h1:i<s.length
 ·by_cases h2:k<t.length
  ·rw[if_pos ⟨h1,h2⟩,if_pos h1,if_pos h2,ald h1 h2];rw[aoh,aoj h1,aoh,aoj h2,aoW,aoW];by_cases h3:s[i]=t[k]
   ·simp only[h3,if_true,a1A,a1E,aoA,aoM,apv,List.foldl_nil,aoW];split<;>split<;>omega
   simp only[h3,if_false,a1A,a1E,aoA,aoM,apv,List.foldl_nil,aoW];split<;>split<;>omega
  obtain rfl:k=t.length:=om;rw[if_neg om,if_pos h1,if_neg h2,alc h1];simp[a1A,a1E];omega
 obtain rfl:i=s.length:=om;by_cases h2:k<t.length
 ·rw[if_neg om,if_neg h1,if_pos h2,ajn h2];simp[a1A,a1E];omega
 obtain rfl:k=t.length:=om;rw[if_neg om,if_neg h1,if_neg h2,afY];rfl
end Go.Proofs.YtdfkaijeppdhaaaGreatDoor
