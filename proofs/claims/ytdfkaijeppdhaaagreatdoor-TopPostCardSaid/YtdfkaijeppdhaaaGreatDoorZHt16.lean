/- Part of the proof. -/
import Derived.Test.YtdfkaijeppdhaaaGreatDoorZHt15
set_option maxRecDepth 100000
set_option maxHeartbeats 8000000
set_option linter.unusedSimpArgs false
set_option linter.unusedVariables false

namespace Go.Proofs.YtdfkaijeppdhaaaGreatDoor
open Go.RowKit Go.Shelf
section
variable{base:Nat}{w w':World}{m r:Nat}{P n R k:Nat->Nat}{B C:Nat->anl}{X:List Nat}
theorem DuoL.post(h:DuoL base w X m P n B r R k C){i:Nat}(hi:i<m):∃F,PostAt w (P i) F (n i) (B i):=by obtain⟨F,G,h0⟩:=h;exact⟨F i,h0.posts.post i hi⟩
theorem DuoL.ref(h:DuoL base w X m P n B r R k C){j:Nat}(hj:j<r):∃vs:Nat->Value,RfAt w (R j) (k j) vs (C j)/\∀i,i<4->0<(C j i).length->∀q,q<r->(vs i).ownBlock≠some (R q):=by
 obtain⟨F,G,h0⟩:=h;obtain⟨vs,h1,h2⟩:=h0.refs j hj;exact⟨vs,h1,fun i hi h3 q hq e=>h0.roff q j hq hj (h2 i hi h3 _ e)⟩
def a98(base:Nat)(X:List Nat)(m:Nat)(P n:Nat->Nat)(B:Nat->anl)(r:Nat)(R k:Nat->Nat)(C:Nat->anl)(v:Value)(w:World)(e:Ending)(w':World):Prop:=e= .returned v/\DuoL base w' X m P n B r R k C/\Kid base w w'
theorem do_d(h:DuoL base w X m P n B r R k C){i:Nat}(hi:i<m)(line:ByteArray)(hs:line.size<=1000000):
  Calls Tryz.prog 24 #[.pointer (some ⟨P i,0,none⟩),.string line] w (a98 base X m P n (upN B i (doB (B i) (n i) line).2.2) r R k C (.tuple #[.string (doB (B i) (n i) line).1,.int .i64 (doB (B i) (n i) line).2.1]) w):=by
 obtain⟨F,G,h0⟩:=h;have ho:=h0.ok i hi;refine(agU (P i) (n i) ho.2 (F i) (B i) line hs w (h0.posts.post i hi) ho.1 h0.posts.vars (h0.posts.free i hi)).mono ?_
 rintro e w' ⟨rfl,F',k1,k2,k3⟩;exact⟨rfl,h0.turn hi (a8q ho.1 ho.2 line) k1 k2 k3⟩
theorem ap1(h:DuoL base w X m P n B r R k C){i j:Nat}(hi:i<m)(hj:j<m):
  Calls Tryz.prog 22 #[.pointer (some ⟨P i,0,none⟩),.pointer (some ⟨P j,0,none⟩)] w (a98 base X m P n (upN B i (a0x (B i) (B j)).2) r R k C (.int .i64 (a0x (B i) (B j)).1) w):=by
 obtain⟨F,G,h0⟩:=h;refine(aas (P i) (n i) (F i) (B i) (P j) (n j) (F j) (B j) w (h0.posts.post i hi) (h0.posts.post j hj) (h0.ok i hi).1 (h0.ok j hj).1).mono ?_
 rintro e w' ⟨rfl,F',k1,k2,k3⟩;exact⟨rfl,h0.turn hi (a5L (h0.ok i hi).1 (h0.ok j hj).1) k1 k2 k3⟩
theorem ac6{F G:Nat->List Nat}(h0:Duo base w m P n B r R k C X F G){j:Nat}(hj:j<r){vs us:Nat->Value}{c:anl}(h2:∀i,i<4->0<(C j i).length->∀g,(vs i).ownBlock=some g->g∈G j)(hr:a5P w w' (C j) c vs us):
  ∀g∈aoE c us,(∃i,i<r/\g∈G i)\/(w.heap.size<=g/\g<w'.heap.size):=fun g hg=>by
 obtain⟨i,hi,h3,h4⟩:=mem_gBlk.1 hg;rcases hr i hi h3 g h4 with⟨q,hq,h5,h6⟩|h5
 ·exact .inl ⟨j,hj,h2 q hq h5 g h6⟩
 exact .inr h5
theorem apt(h:DuoL base w X m P n B r R k C){j:Nat}(hj:j<r)(line:ByteArray)(hs:line.size<=1000000):
  Calls Tryz.prog 28 #[.pointer (some ⟨R j,0,none⟩),.string line] w (a98 base X m P n B r R k (upN C j (doB (C j) (k j) line).2.2) (.tuple #[.string (doB (C j) (k j) line).1,.int .i64 (doB (C j) (k j) line).2.1]) w):=by
 obtain⟨F,G,h0⟩:=h;have ho:=h0.rok j hj;obtain⟨vs,h1,h2⟩:=h0.refs j hj;refine(akN (R j) (k j) ho.2 vs (C j) line hs w h1 ho.1 (fun i hi h3 e=>h0.roff j j hj hj (h2 i hi h3 _ e))).mono ?_
 rintro e w' ⟨rfl,us,k1,k2,k3⟩;exact⟨rfl,h0.rturn hj (a8q ho.1 ho.2 line) k1.rp (ac6 h0 hj h2 k2) k3⟩
theorem ae5(h:DuoL base w X m P n B r R k C){j l:Nat}(hj:j<r)(hl:l<r):∃vs:Nat->Value,RfAt w (R l) (k l) vs (C l)/\
  Calls Tryz.prog 27 #[.pointer (some ⟨R j,0,none⟩),.agg #[vs 0,vs 1,vs 2,vs 3]] w (a98 base X m P n B r R k (upN C j (a0x (C j) (C l)).2) (.bool (decide ((a0x (C j) (C l)).1=0))) w):=by
 obtain⟨F,G,h0⟩:=h;have ho:=h0.rok j hj;obtain⟨vs,h1,h2⟩:=h0.refs j hj;obtain⟨us,h3,h4⟩:=h0.refs l hl;refine⟨us,h3,(ahn (R j) (k j) vs (C j) us (C l) w h1 h3.2 ho.1 (h0.rok l hl).1 (fun i hi h5 e=>h0.roff j j hj hj (h2 i hi h5 _ e)) (fun i hi h5 e=>h0.roff j l hj hl (h4 i hi h5 _ e))).mono ?_⟩;rintro e w' ⟨rfl,us',k1,k2,k3⟩;exact⟨rfl,h0.rturn hj (a5L ho.1 (h0.rok l hl).1) k1.rp (ac6 h0 hj h2 k2) k3⟩
theorem apu(h:DuoL base w X m P n B r R k C){m' i:Nat}(hm:∀j,j<m'->j=i\/j<m)(q:Nat)(hq:q<4):
  Calls Tryz.prog 34 #[.int .i64 q] w fun e w'=>∃P',e= .returned (.tuple #[.pointer (some ⟨P',0,none⟩),.int .i64 0])/\DuoL base w' X m' (upN P i P') (upN n i q) (upN B i anO) r R k C/\Below w.heap.size w w':=by
 obtain⟨F,G,h0⟩:=h;refine(adQ q hq w).mono ?_
 rintro e w' ⟨rfl,rfl⟩;have hb:Below w.heap.size w ((w.alloc (.cells #[.slice none 0 0,.slice none 0 0,.slice none 0 0,.slice none 0 0] 96)).alloc (.cells #[.pointer (some ⟨w.heap.size,0,none⟩),.int .i64 q] 81)):=((apC _ _).alloc (aly _) _).alloc (by simp) _
 exact⟨_,rfl,(h0.put hm a3w hq (aby q w) (fun g hg=>.inr (by simp at hg;omega)) hb).1,hb⟩
theorem aht(h:DuoL base w X m P n B r R k C){r' j:Nat}(hr:∀i,i<r'->i=j\/i<r)(q:Nat)(hq:q<4):
  Calls Tryz.prog 46 #[.int .i64 q] w fun e w'=>∃R',e= .returned (.pointer (some ⟨R',0,none⟩))/\DuoL base w' X m P n B r' (upN R j R') (upN k j q) (upN C j anO)/\Below w.heap.size w w':=by
 obtain⟨F,G,h0⟩:=h;refine(aj9 q w).mono ?_
 rintro e w' ⟨rfl,rfl⟩;have hb:Below w.heap.size w (w.alloc (.cells #[.int .i64 q,.slice none 0 0,.slice none 0 0,.slice none 0 0,.slice none 0 0] 54)):=(apC _ _).alloc (aly _) _
 have hrf:RfAt (w.alloc (.cells #[.int .i64 q,.slice none 0 0,.slice none 0 0,.slice none 0 0,.slice none 0 0] 54)) w.heap.size q (fun _=>.slice none 0 0) anO:=
  ⟨World.alloc_heap_new w _,fun i hi=>(a2P _).ents (alE _)⟩
 have hg:aoE anO (fun _=>.slice none 0 0)=[]:=by
  apply List.eq_nil_iff_forall_not_mem.2;intro g hg;obtain⟨i,_,h3,_⟩:=mem_gBlk.1 hg;exact absurd h3 (Nat.lt_irrefl 0)
 refine⟨_,rfl,(h0.rput hr a3w hq hrf.rp (aly _) (by rw[hg];simp) (by rw[hg];simp) hb).1,hb⟩
theorem ap2(h:DuoL base w X m P n B r R k C){i:Nat}(hi:i<m):Calls Tryz.prog 29 #[.pointer (some ⟨P i,0,none⟩)] w (adZ (a0F (B i)) w):=by
 obtain⟨F,h1⟩:=h.post hi;exact ah0 _ _ _ _ w h1 (h.ok hi) h.vars
theorem ap3(h:DuoL base w X m P n B r R k C){i:Nat}(hi:i<m):Calls Tryz.prog 25 #[.pointer (some ⟨P i,0,none⟩)] w (a2D (ann (B i)) w):=by
 obtain⟨F,h1⟩:=h.post hi;exact aar _ _ _ _ w h1 (h.ok hi)
theorem akO(h:DuoL base w X m P n B r R k C){j:Nat}(hj:j<r):Calls Tryz.prog 42 #[.pointer (some ⟨R j,0,none⟩)] w (a2D (ann (C j)) w):=by
 obtain⟨vs,h1,_⟩:=h.ref hj;exact a6M _ _ vs _ w h1 (h.rok hj)
theorem akP(h:DuoL base w X m P n B r R k C){i:Nat}(hi:i<m):Calls Tryz.prog 23 #[.pointer (some ⟨P i,0,none⟩)] w fun e w'=>e= .returned (.int .i64 (anF (B i)))/\w=w':=by
 obtain⟨F,h1⟩:=h.post hi;exact aeN _ _ _ _ w h1 (h.ok hi)
theorem ajf(h:DuoL base w X m P n B r R k C){j:Nat}(hj:j<r):Calls Tryz.prog 61 #[.pointer (some ⟨R j,0,none⟩)] w fun e w'=>e= .returned (.int .i64 (anF (C j)))/\w=w':=by
 obtain⟨vs,h1,_⟩:=h.ref hj;exact a8X _ _ vs _ w h1 (h.rok hj)
theorem ajg(h:DuoL base w X m P n B r R k C){i:Nat}(hi:i<m):Calls Tryz.prog 38 #[.pointer (some ⟨P i,0,none⟩)] w fun e w'=>e= .returned (.int .i64 (n i:Nat))/\w=w':=by
 obtain⟨F,h1⟩:=h.post hi;exact adf _ _ _ _ w h1
theorem ap4(h:DuoL base w X m P n B r R k C){i:Nat}(hi:i<m):Calls Tryz.prog 21 #[.pointer (some ⟨P i,0,none⟩)] w (a5M (B i) w):=by
 obtain⟨F,h1⟩:=h.post hi;exact agV _ _ _ _ w h1 (h.ok hi)
theorem akQ(h:DuoL base w X m P n B r R k C){j:Nat}(hj:j<r):Calls Tryz.prog 79 #[.pointer (some ⟨R j,0,none⟩)] w (a5M (C j) w):=by
 obtain⟨vs,h1,_⟩:=h.ref hj;exact ahr _ _ vs _ w h1 (h.rok hj)
theorem ahu(h:DuoL base w X m P n B r R k C){i j:Nat}(hi:i<m)(hj:j<m):Calls Tryz.prog 37 #[.pointer (some ⟨P i,0,none⟩),.pointer (some ⟨P j,0,none⟩)] w (a38 (decide (a0F (B i)=a0F (B j))) w):=by
 obtain⟨F,h1⟩:=h.post hi;obtain⟨F2,h2⟩:=h.post hj;exact ah1 _ _ _ _ _ _ _ _ w h1 h2 (h.ok hi) (h.ok hj) h.vars
end
open Go
def anU:List UInt8->List UInt8->Nat
 |[],[]=>0
 |[],_::t=>1+anU [] t
 |_::s,[]=>1+anU s []
 |x::s,y::t=>min (min ((if x=y then 0 else 1)+anU s t) (1+anU s (y::t))) (1+anU (x::s) t)
termination_by s t=>s.length+t.length
theorem a5o:∀s t:List UInt8,anU s t<=s.length+t.length
 |[],[]=>by simp[anU]
 |[],_::t=>by have:=a5o [] t;simp only[anU,alH,alB]at *;omega
 |_::s,[]=>by have:=a5o s [];simp only[anU,alH,alB]at *;omega
 |x::s,y::t=>by
  have:=a5o (x::s) t;simp only[anU,alB]at *;omega
termination_by s t=>s.length+t.length
def cst(s t:List UInt8)(i k:Nat):Nat:=anU (s.drop i) (t.drop k)
theorem ae6(s t:List UInt8):cst s t s.length t.length=0:=by unfold cst;simp[anU]
theorem ajj{s t:List UInt8}{i:Nat}(hi:i<s.length):cst s t i t.length=1+cst s t (i+1) t.length:=by
 unfold cst;rw[am3 hi,List.drop_length,anU]
theorem ahv{s t:List UInt8}{k:Nat}(hk:k<t.length):cst s t s.length k=1+cst s t s.length (k+1):=by
 unfold cst;rw[am3 hk,List.drop_length,anU]
theorem ajk{s t:List UInt8}{i k:Nat}(hi:i<s.length)(hk:k<t.length):cst s t i k=min (min ((if s[i]=t[k]then 0 else 1)+cst s t (i+1) (k+1)) (1+cst s t (i+1) k)) (1+cst s t i (k+1)):=by
 unfold cst;rw[am3 hi,am3 hk,anU]
theorem ahw(s t:List UInt8)(i k:Nat):cst s t i k<=s.length+t.length:=by
 have:=a5o (s.drop i) (t.drop k);unfold cst;simp only[alS]at this;omega
structure Stp where
 edit:Nat
 i:Nat
 k:Nat
 cost:Nat
def a0g(s t:List UInt8)(i k:Nat):List Stp:=
 (if i<s.length/\k<t.length then [if s.getD i 0=t.getD k 0 then ⟨1,i+1,k+1,0⟩else ⟨2,i+1,k+1,1⟩]else [])++
 ((if i<s.length then [⟨3,i+1,k,1⟩]else [])++(if k<t.length then [⟨4,i,k+1,1⟩]else []))
def a1e(o:Option Nat)(n:Nat):Option Nat:=some (match o with
 |none=>n
 |some b=>if n<b then n else b)
def a1a(s t:List UInt8)(l:List Stp):Option Nat:=l.foldl (fun o x=>a1e o (cst s t x.i x.k+x.cost)) none
theorem a3q(s t:List UInt8)(l:List Stp)(x:Stp):a1a s t (l++[x])=a1e (a1a s t l) (cst s t x.i x.k+x.cost):=by simp[a1a,amN]
theorem ae7{s t:List UInt8}{i k:Nat}(hi:i<=s.length)(hk:k<=t.length):(a1a s t (a0g s t i k)).getD 0=cst s t i k:=by
 unfold a0g;by_cases h1:i<s.length
 ·by_cases h2:k<t.length
  ·rw[if_pos ⟨h1,h2⟩,if_pos h1,if_pos h2,ajk h1 h2];rw[abs,alz h1,abs,alz h2,am8,am8];by_cases h3:s[i]=t[k]
   ·simp only[h3,if_true,a1a,a1e,alM,alY,amY,List.foldl_nil,am8];split<;>split<;>omega
   simp only[h3,if_false,a1a,a1e,alM,alY,amY,List.foldl_nil,am8];split<;>split<;>omega
  obtain rfl:k=t.length:=by omega
  rw[if_neg (by omega),if_pos h1,if_neg h2,ajj h1];simp[a1a,a1e];omega
 obtain rfl:i=s.length:=by omega
 by_cases h2:k<t.length
 ·rw[if_neg (by omega),if_neg h1,if_pos h2,ahv h2];simp[a1a,a1e];omega
 obtain rfl:k=t.length:=by omega
 rw[if_neg (by omega),if_neg h1,if_neg h2,ae6];rfl
end Go.Proofs.YtdfkaijeppdhaaaGreatDoor
