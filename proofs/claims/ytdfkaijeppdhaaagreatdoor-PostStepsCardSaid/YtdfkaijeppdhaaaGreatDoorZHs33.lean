/- Part of the proof. -/
import Derived.Test.YtdfkaijeppdhaaaGreatDoorZHs32
import Derived.Deep.DeepCutAuto

set_option maxRecDepth 100000
set_option maxHeartbeats 8000000
set_option linter.unusedSimpArgs false
set_option linter.unusedVariables false

namespace Go.Proofs.YtdfkaijeppdhaaaGreatDoor.Fd
open Go.RowKit
def Okv(c:List Int)(l:List a04):Prop:=l.length=c.length/\∀k,k<c.length->1<=(l.getD k (0,0)).2/\(l.getD k (0,0)).2<=10000/\0<=(l.getD k (0,0)).1/\(l.getD k (0,0)).1<=c.getD k 0 * (l.getD k (0,0)).2
theorem acG{f:Int->a04}{c:List Int}{k:Nat}(hk:k<c.length):(c.map f).getD k (0,0)=f (c.getD k 0):=by
 simp[aoh,hk]
theorem aga{c:List Int}{e:Int}{l:List a04}{f:Int->Int}{Q:Int}(h:Shr c e l f Q):Okv c l:=by
 refine⟨by rw[h.aw,aoB],fun k hk=>?_⟩;have hm:=a1v hk;have:=anO h.hQ (h.lo _ hm) (h.hi _ hm);have hq:=h.hQ2;rw[h.aw,acG hk];omega
theorem Cvl.shr2{c:List Int}(h:Cvl c){e r:Int}(he:0<=e)(hs:e<=Go.Proofs.YtdfkaijeppdhaaaGreatDoor.Fd.tot c)(hr:1<=r/\r<=4):Shr c e (shareL c e r) (frF c e r) (frQ c e r):=ahD h.ne h.pos h.hi h.tot.2 he hs hr
end Go.Proofs.YtdfkaijeppdhaaaGreatDoor.Fd
namespace Go.Proofs.YtdfkaijeppdhaaaGreatDoor.Fd
open Go.RowKit
end Go.Proofs.YtdfkaijeppdhaaaGreatDoor.Fd
namespace Go.Proofs.YtdfkaijeppdhaaaGreatDoor.Fd
open Go.RowKit
def KB(w W:World):Prop:=Below w.heap.size w W
theorem KB.refl(w:World):KB w w:=aoi _ _
theorem KB.alloc{w W:World}(h:KB w W)(o:Obj):KB w (W.alloc o):=Below.alloc h h.size o
theorem KB.drew{w W:World}(h:KB w W):KB w W.drew:=Below.drew h
theorem KB.call{w W w2:World}(h:KB w W)(hb:Below W.heap.size W w2):KB w w2:=Below.trans h (hb.mono h.size)
end Go.Proofs.YtdfkaijeppdhaaaGreatDoor.Fd
namespace Go.Proofs.YtdfkaijeppdhaaaGreatDoor.Fd
open Go.RowKit
theorem agb{c:List Int}{l:List a04}(hc:Cvl c)(h:Okv c l):Mod l:=fun x hx=>by
 obtain⟨k,hk,rfl⟩:=apc hx;have hk':k<c.length:=by have:=h.1;omega
 obtain⟨h1,h2,h3,h4⟩:=h.2 k hk';have hb:=hc.holds _ (a1v hk');rw[aoh,aoj hk]at h1 h2 h3 h4;simp only[aoW]at h1 h2 h3 h4;generalize l[k]=r at *;have h5:c.getD k 0 * r.2<=1000 * r.2:=aoo om om;exact⟨om,om,h1,om⟩
structure ShOk(c:List Int)(n r:Int)(l:List a04):Prop where
 okv:Okv c l
 mod:Mod l
 pos:0<l.length
 hi:l.length<=8
 val:a0Z c n r=l
theorem shOk{c:List Int}{n r:Int}(h:shareE c n r=0):ShOk c n r (shareL c n r):=by
 have ha:a44 c n=0/\1<=r/\r<=4:=a6d h;obtain⟨hc,h1,h2⟩:=a5P ha.1;have ho:=aga (hc.shr2 h1 h2 ha.2);have h3:=hc.lo;have h4:=hc.hi;exact⟨ho,agb hc ho,by rw[ho.1];omega,by rw[ho.1];omega,by unfold a0Z;rw[if_pos h]⟩
def Bef(G:List Int)(j i:Nat):Prop:=G.getD i 0<G.getD j 0\/(G.getD i 0=G.getD j 0/\j<i)
structure Orde(G:List Int)(L:List Nat):Prop where
 perm:L.Perm (List.range G.length)
 sorted:L.Pairwise (Bef G)
def incL(q:List Int)(L:List Nat):List Int:=L.foldl (fun o i=>o.set i (o.getD i 0+1)) q
theorem acH(q:List Int)(L:List Nat)(i:Nat):incL q (L++[i])=(incL q L).set i ((incL q L).getD i 0+1):=by simp[incL,apl]
theorem incL_len:∀(L:List Nat) (q:List Int),(incL q L).length=q.length
 |[],q=>rfl
 |i::L,q=>(incL_len L (q.set i (q.getD i 0+1))).trans ap8
def a5Q(G:List Int)(L:List Nat):List Int:=L.foldl (fun g i=>g.set i 0) G
theorem a9O:∀(L:List Nat) (G:List Int),(a5Q G L).length=G.length
 |[],q=>rfl
 |i::L,q=>(a9O L (q.set i 0)).trans ap8
theorem agc:∀(L:List Nat) (G:List Int) (j:Nat),(a5Q G L).getD j 0=if j∈L then 0 else G.getD j 0
 |[],G,j=>by simp[a5Q]
 |i::L,G,j=>by
  have ih:=agc L (G.set i 0) j;rw[show a5Q G (i::L)=a5Q (G.set i 0) L from rfl,ih];by_cases h1:j∈L
  ·simp[h1]
  by_cases h2:j=i
  ·subst h2;simp[h1,aoh,aq4];split<;>simp
  simp[h1,h2,aoh,aq4,Ne.symm h2]
def moG(G:List Int):Nat->Nat
 |0=>0
 |k+1=>if G.getD (moG G k) 0<G.getD k 0 then k else moG G k
theorem aen{G:List Int}(h0:0<G.length):∀k,k<=G.length->moG G k<G.length
 |0,_=>h0
 |k+1,h=>by
  unfold moG;split
  ·omega
  exact aen h0 k om
theorem acI(G:List Int):∀k,(∀j,j<k->G.getD j 0<=G.getD (moG G k) 0)/\(∀j,j<moG G k->G.getD j 0<G.getD (moG G k) 0)
 |0=>⟨fun j hj=>om,fun j hj=>by simp[moG]at hj⟩
 | k+1=>by
  obtain⟨h1,h2⟩:=acI G k;unfold moG;split
  ·rename_i h
   refine⟨fun j hj=>?_,fun j hj=>?_⟩
   ·rcases aoO.1 hj with hj|rfl
    ·have:=h1 j hj;omega
    exact aoR _
   have:=h1 j hj;omega
  rename_i h
  refine⟨fun j hj=>?_,h2⟩;rcases aoO.1 hj with hj|rfl
  ·exact h1 j hj
  omega
theorem anP{G:List Int}{b:Nat}(h0:0<G.length)(hb:b<G.length)(h1:∀j,j<G.length->G.getD j 0<=G.getD b 0)(h2:∀j,j<b->G.getD j 0<G.getD b 0):moG G G.length=b:=by
 obtain⟨k1,k2⟩:=acI G G.length;have hm:=aen h0 G.length (aof _);rcases Nat.lt_trichotomy (moG G G.length) b with h|h|h
 ·have:=h2 _ h;have:=k1 b hb;omega
 ·exact h
 have:=k2 _ h;have:=h1 _ hm;omega
theorem orde_len{G:List Int}{L:List Nat}(h:Orde G L):L.length=G.length:=by rw[h.perm.length_eq];simp
theorem a4J{G:List Int}{L:List Nat}(h:Orde G L){i:Nat}(hi:i∈L):i<G.length:=by
 have:=h.perm.mem_iff.1 hi;simpa using this
theorem alI{G:List Int}{L:List Nat}(h:Orde G L){i:Nat}(hi:i<G.length):i∈L:=h.perm.mem_iff.2 (by simpa using hi)
theorem ahE{G:List Int}{L:List Nat}(h:Orde G L):L.Nodup:=h.perm.nodup_iff.2 List.nodup_range
theorem ane{G:List Int}{L:List Nat}(h:Orde G L)(hG:∀i,i<G.length->0<=G.getD i 0){k:Nat}(hk:k<L.length)(hp:0<G.getD L[k] 0):moG (a5Q G (L.take k)) G.length=L[k]:=by
 have hn:=ahE h;have hb:L[k]<G.length:=a4J h (aoZ hk)
 have hbn:L[k]∉L.take k:=fun hm=>by
  obtain⟨j,hj,he⟩:=apc hm;rw[List.getElem_take]at he;have hjk:j<k:=by rw[aoy]at hj;omega
  exact(apo.1 hn j k om hk hjk) he
 have hval:∀j,(a5Q G (L.take k)).getD j 0=if j∈L.take k then 0 else G.getD j 0:=fun j=>agc _ _ j
 have hlen:=a9O (L.take k) G
 have key:∀j,j<G.length->j∉L.take k->j=L[k]\/Bef G L[k] j:=fun j hj hm=>by
  obtain⟨i,hi,rfl⟩:=apc (alI h hj);rcases Nat.lt_trichotomy i k with h1|rfl|h1
  ·exact absurd (List.mem_iff_getElem.2 ⟨i,by rw[aoy];omega,by rw[List.getElem_take]⟩) hm
  ·exact .inl rfl
  exact .inr (apo.1 h.sorted k i hk hi h1)
 rw[<-hlen];refine anP (by rw[hlen];omega) (by rw[hlen];exact hb) (fun j hj=>?_) (fun j hj=>?_)
 ·rw[hval,hval,if_neg hbn];split
  ·omega
  rename_i hm
  rcases key j om hm with rfl|h1|⟨h1,_⟩<;>omega
 rw[hval,hval,if_neg hbn];split
 ·omega
 rename_i hm
 rcases key j om hm with rfl|h1|⟨h1,h2⟩<;>omega
theorem a6v{Q:Int}:∀(l:List Int) (k:Nat),(∀x∈l,x<=Q)->0<=Q->(l.take k).sum<=k * Q
 |[],k,_,hQ=>by simp;exact apk om hQ
 |x::l,0,_,_=>by simp
 |x::l,k+1,h,hQ=>by
  have ih:=a6v l k (fun y hy=>h y (by simp[hy])) hQ;have hx:=h x oz;rw[List.take_succ_cons,List.sum_cons];push_cast;rw[apS];omega
theorem aeo:∀(l:List Int),(∀x∈l,x=0)->l.sum=0
 |[],_=>rfl
 |x::l,h=>by rw[List.sum_cons,h x oz,aeo l (fun y hy=>h y (by simp[hy]))];rfl
theorem ajZ{a b:List Int}(h:a.Perm b):a.sum=b.sum:=by
 induction h with
 |nil=>rfl
 |cons x _ ih=>rw[List.sum_cons,List.sum_cons,ih]
 |swap x y l=>simp only[List.sum_cons];omega
 |trans _ _ h1 h2=>exact h1.trans h2
theorem abQ(G:List Int):(List.range G.length).map (fun i=>G.getD i 0)=G:=by
 apply List.ext_getElem
 ·simp
 intro i h1 h2;simp[aoh,h2]
theorem alJ{G:List Int}{L:List Nat}{Q left:Int}(h:Orde G L)(hG:∀i,i<G.length->0<=G.getD i 0/\G.getD i 0<Q)(hs:G.sum=left * Q)(hQ:1<=Q){k:Nat}(hk:(k:Int)<left):∃hk:k<L.length,0<G.getD L[k] 0:=by
 have hsum:(L.map fun i=>G.getD i 0).sum=left * Q:=by
  rw[ajZ (h.perm.map _),abQ,hs]
 have hle:∀x∈(L.map fun i=>G.getD i 0),x<=Q:=fun x hx=>by
  obtain⟨i,hi,rfl⟩:=ap1.1 hx;have:=hG i (a4J h hi);omega
 have hcon:∀(hz:∀x∈(L.map fun i=>G.getD i 0).drop k,x=0),False:=fun hz=>by
  have h1:=a6v _ k hle om;have h2:=aeo _ hz
  have h3:((L.map fun i=>G.getD i 0).take k).sum+((L.map fun i=>G.getD i 0).drop k).sum=left * Q:=by
   rw[<-List.sum_append,ap9,hsum]
  have h4:(k+1:Int) * Q<=left * Q:=aoo om om;rw[apS]at h4;omega
 by_cases hkl:k<L.length
 ·refine⟨hkl,?_⟩;have h0:=hG L[k] (a4J h (aoZ hkl));by_cases hz:G.getD L[k] 0=0
  ·exfalso;refine hcon (fun x hx=>?_);rw[<-List.map_drop]at hx;obtain⟨i,hi,rfl⟩:=ap1.1 hx;obtain⟨j,hj,rfl⟩:=apc hi;rw[List.getElem_drop];have hj':k+j<L.length:=by rw[aoG]at hj;omega
   have hb:=hG L[k+j] (a4J h (aoZ hj'));rcases apI j with rfl|hp
   ·simpa using hz
   rcases apo.1 h.sorted k (k+j) hkl hj' om with h1|⟨h1,_⟩<;>omega
  omega
 exfalso;exact hcon (fun x hx=>by rw[apy km]at hx;simp at hx)
open Lib (hid)
open Proofs.Tryz
def KBs(w W:World):Prop:=Below w.heap.size w W
theorem KBs.refl(w:World):KBs w w:=aoi _ _
theorem KBs.drew{w W:World}(h:KBs w W):KBs w W.drew:=Below.drew h
theorem KBs.call{w W w2:World}(h:KBs w W)(hb:Below W.heap.size W w2):KBs w w2:=Below.trans h (hb.mono h.size)
structure Rep(Q:Int)(R:List a04)(G:List Int):Prop where
 len:R.length=G.length
 hQ:1<=Q
 den:∀i,i<G.length->1<=(R.getD i (0,0)).2
 val:∀i,i<G.length->(R.getD i (0,0)).1 * Q=G.getD i 0 * (R.getD i (0,0)).2
theorem Rep.lt{Q:Int}{R:List a04}{G:List Int}(h:Rep Q R G){i j:Nat}(hi:i<G.length)(hj:j<G.length):(R.getD i (0,0)).1 * (R.getD j (0,0)).2<(R.getD j (0,0)).1 * (R.getD i (0,0)).2↔G.getD i 0<G.getD j 0:=by
 have h1:=h.val i hi;have h2:=h.val j hj;have d1:=h.den i hi;have d2:=h.den j hj;have hQ:=h.hQ;generalize R.getD i (0,0)=a at *;generalize R.getD j (0,0)=b at *;generalize G.getD i 0=x at *;generalize G.getD j 0=y at *;have hp:0<a.2 * b.2:=Int.mul_pos om om;have e1:a.1 * b.2 * Q=x * (a.2 * b.2):=by rw[apX,h1,apq]
 have e2:b.1 * a.2 * Q=y * (a.2 * b.2):=by rw[apX,h2,apq,aps b.2]
 constructor
 ·intro h3;have h4:a.1 * b.2 * Q<b.1 * a.2 * Q:=Int.mul_lt_mul_of_pos_right h3 om;rw[e1,e2]at h4;exact Int.lt_of_mul_lt_mul_right h4 om
 intro h3;have h4:x * (a.2 * b.2)<y * (a.2 * b.2):=Int.mul_lt_mul_of_pos_right h3 hp;rw[<-e1,<-e2]at h4;exact Int.lt_of_mul_lt_mul_right h4 om
structure RatBox(Bx b off cap:Nat)(R:List a04)(w:World):Prop where
 bx:w.cell? ⟨Bx,0,none⟩=some (.slice (some ⟨b,off,none⟩) R.length cap)
 at':∀i,i<R.length->w.cell? ⟨b,off+i * 2,none⟩=some (.int .i64 (R.getD i (0,0)).1)/\w.cell? ⟨b,off+i * 2+1,none⟩=some (.int .i64 (R.getD i (0,0)).2)
theorem RatBox.keep{Bx b off cap:Nat}{R:List a04}{w W:World}(h:RatBox Bx b off cap R w)(hk:∀k,k=Bx\/k=b->W.heap[k]? =w.heap[k]?):RatBox Bx b off cap R W:=
 ⟨(World.cell?_of_block (hk Bx (.inl rfl))).trans h.bx,fun i hi=>⟨(World.cell?_of_block (hk b (.inr rfl))).trans (h.at' i hi).1,(World.cell?_of_block (hk b (.inr rfl))).trans (h.at' i hi).2⟩⟩
theorem RatBox.below{Bx b off cap:Nat}{R:List a04}{w W:World}(h:RatBox Bx b off cap R w)(hb:Below w.heap.size w W):RatBox Bx b off cap R W:=
 ⟨keep_cell hb h.bx,fun i hi=>⟨keep_cell hb (h.at' i hi).1,keep_cell hb (h.at' i hi).2⟩⟩
theorem ahF{Bx b off cap:Nat}{R:List a04}{w:World}(h:RatBox Bx b off cap R w)(hm:Mod R)(hl:R.length<=8){a c:Nat}(ha:a<R.length)(hc:c<R.length):
  Calls prog 292 #[.int .i64 a,.int .i64 c,.pointer (some ⟨Bx,0,none⟩)] w fun e w'=>e= .returned (.int .i64 (Lib.compareInt ((R.getD c (0,0)).1 * (R.getD a (0,0)).2) ((R.getD a (0,0)).1 * (R.getD c (0,0)).2)))/\Below w.heap.size w w':=by
 have b0:=h.bx;obtain⟨x1,d1⟩:=h.at' a ha;obtain⟨y1,f1⟩:=h.at' c hc;have hx:=hm _ (a2D ha);have hy:=hm _ (a2D hc);have ha':(a:Int)<(R.length:Int):=om;have hc':(c:Int)<(R.length:Int):=om;clear h hm;generalize R.getD a (0,0)=xd at *;generalize R.getD c (0,0)=yd at *;obtain⟨n,d⟩:=xd;obtain⟨p,q⟩:=yd;simp only at x1 d1 y1 f1 hx hy⊢
 have m1: -1000000000 * 1000000<=n * q/\n * q<=1000000000 * 1000000:=by
  constructor
  ·have:=aoo (show-1000000000<=n by omega) (show 0<=q by omega);omega
  have:=aoo (show n<=1000000000 by omega) (show 0<=q by omega);omega
 have m2: -1000000000 * 1000000<=p * d/\p * d<=1000000000 * 1000000:=by
  constructor
  ·have:=aoo (show-1000000000<=p by omega) (show 0<=d by omega);omega
  have:=aoo (show p<=1000000000 by omega) (show 0<=d by omega);omega
 have C:=hid (fun W (hW:KBs w W)=>(a9g p q n d W om om).mono (R':=fun e w'=>e= .returned (.int .i64 (Lib.compareInt (p * d) (n * q)))/\KBs w w') (fun e w' ⟨h5,h6⟩=>⟨h5,KBs.call hW h6⟩));generalize Lib.compareInt (p * d) (n * q)=cv at *;clear m1 m2 hx hy;have r0:∀W,KBs w W->W.cell? ⟨Bx,0,none⟩=some (.slice (some ⟨b,off,none⟩) R.length cap):=fun W h=>keep_cell h b0;have r1:∀W,KBs w W->W.cell? ⟨b,off+a * 2,none⟩=some (.int .i64 n):=fun W h=>keep_cell h x1;have r2:∀W,KBs w W->W.cell? ⟨b,off+a * 2+1,none⟩=some (.int .i64 d):=fun W h=>keep_cell h d1;have r3:∀W,KBs w W->W.cell? ⟨b,off+c * 2,none⟩=some (.int .i64 p):=fun W h=>keep_cell h y1;have r4:∀W,KBs w W->W.cell? ⟨b,off+c * 2+1,none⟩=some (.int .i64 q):=fun W h=>keep_cell h f1;clear b0 x1 d1 y1 f1;go_enter func292,ntmps292;go_wp2
 go_region_held3 (fun W=>KBs w W) (first|exact KBs.drew (KBs.refl _)|assumption|(apply KBs.drew;assumption)) (first
  |(go_at_call 293;(with_reducible refine(C.out _ ?_).mono ?_);(first|exact KBs.drew (KBs.refl _)|exact KBs.refl _);rintro e w5 ⟨rfl,k5⟩)
  |fail)
 all_goals (
  have K5:=hid k5;clear k5;go_wp2;go_ret;exact⟨rfl,(by first|exact K5.out|exact KBs.drew K5.out)⟩)
def asI(L:List Nat):List Int:=L.map (fun(i:Nat)=>((i:Nat):Int))
theorem agd(L:List Nat):(asI L).length=L.length:=by simp[asI]
theorem aep{L:List Nat}{j:Nat}(h:j<L.length):(asI L).getD j 0=(L[j]:Int):=by simp[asI,aoh,h]
theorem age(L:List Nat)(j x:Nat):(asI L).set j (x:Int)=asI (L.set j x):=by simp[asI,List.map_set]
def aeq(G:List Int)(n i:Nat)(arr:List Nat):Prop:=∃P:List Nat,arr=P++(List.range n).drop i/\P.Perm (List.range i)/\P.Pairwise (Bef G)
def a7u(G:List Int)(n i j:Nat)(arr:List Nat):Prop:=∃A B:List Nat,A.length=j/\arr=A++i::(B++(List.range n).drop (i+1))/\(A++B).Perm (List.range i)/\(A++B).Pairwise (Bef G)/\∀x∈B,G.getD x 0<G.getD i 0
theorem abd{n i:Nat}(h:i<n):(List.range n).drop i=i::(List.range n).drop (i+1):=by
 rw[aoL (by simpa using h)];simp
theorem ak0(G:List Int){n:Nat}(h:1<=n):aeq G n 1 (List.range n):=⟨[0],by
 have:=abd (n:=n) (i:=0) om;simpa using this,by simp[List.range_succ],by simp⟩
theorem ak1{G:List Int}{n i:Nat}{arr:List Nat}(h:aeq G n i arr)(hi:i<n):a7u G n i i arr:=by
 obtain⟨P,h1,h2,h3⟩:=h;exact⟨P,[],by rw[h2.length_eq];simp,by rw[h1,abd hi];simp,by simpa using h2,by simpa using h3,fun x hx=>by simp at hx⟩
theorem anf{G:List Int}{n i j:Nat}{arr:List Nat}(h:a7u G n i j arr)(hi:i<n):arr.length=n/\j<=i:=by
 obtain⟨A,B,h1,rfl,h2,_⟩:=h;have:=h2.length_eq;simp at this;simp;omega
theorem anQ{G:List Int}{n i j:Nat}{arr:List Nat}(h:a7u G n i j arr):arr.getD j 0=i:=by
 obtain⟨A,B,rfl,rfl,_⟩:=h;simp[aoh]
theorem alK{G:List Int}{n i j:Nat}{arr:List Nat}(h:a7u G n i (j+1) arr):arr.getD j 0<i:=by
 obtain⟨A,B,h1,rfl,h2,_⟩:=h;have hj:j<A.length:=om
 have:(A++i::(B++(List.range n).drop (i+1))).getD j 0=A[j]:=by
  simp[aoh,apn hj,hj]
 rw[this];have hm:A[j]∈List.range i:=h2.mem_iff.1 (List.mem_append_left _ (aoZ hj));simpa using hm
theorem alL{G:List Int}{n i j:Nat}{arr:List Nat}(h:a7u G n i (j+1) arr)(hlt:G.getD (arr.getD j 0) 0<G.getD i 0):a7u G n i j ((arr.set (j+1) (arr.getD j 0)).set j i):=by
 obtain⟨A,B,h1,rfl,h2,h3,h4⟩:=h
 obtain⟨A',y,rfl⟩:∃A' y,A=A'++[y]:=by
  refine⟨A.dropLast,A.getLast (by intro e;rw[e]at h1;simp at h1),(List.dropLast_concat_getLast _).symm⟩
 have hA:A'.length=j:=by simpa using h1
 subst hA;have e1:(A'++[y]++i::(B++(List.range n).drop (i+1))).getD A'.length 0=y:=by simp[aoh]
 rw[e1]at hlt⊢;refine⟨A',y::B,rfl,?_,by simpa using h2,by simpa using h3,fun x hx=>?_⟩
 ·simp[List.set_append]
 rcases aov.1 hx with rfl|hx
 ·exact hlt
 exact h4 x hx
theorem aer{G:List Int}{n i j:Nat}{arr:List Nat}(h:a7u G n i j arr)(hi:i<n)(hs:j=0\/¬G.getD (arr.getD (j-1) 0) 0<G.getD i 0):aeq G n (i+1) arr:=by
 obtain⟨A,B,h1,rfl,h2,h3,h4⟩:=h
 have hmem:∀x,x∈A\/x∈B->x<i:=fun x hx=>by
  have:=h2.mem_iff.1 (aoI.2 hx);simpa using this
 obtain⟨pA,pB,pAB⟩:=apL.1 h3
 have hA:∀x∈A,Bef G x i:=fun x hx=>by
  obtain⟨k,hk,rfl⟩:=apc hx;rcases hs with rfl|hs
  ·omega
  have hj:j-1<A.length:=om;have e1:(A++i::(B++(List.range n).drop (i+1))).getD (j-1) 0=A[j-1]:=by simp[aoh,apn hj,hj]
  rw[e1]at hs;have hlt:=hmem A[k] (.inl (aoZ hk))
  have h5:G.getD A[j-1] 0<=G.getD A[k] 0:=by
   rcases Nat.lt_or_ge k (j-1)with h6|h6
   ·rcases apo.1 pA k (j-1) hk hj h6 with h7|⟨h7,_⟩<;>omega
   have:k=j-1:=om;subst this;exact aoR _
  unfold Bef;omega
 refine⟨A++i::B,by simp,?_,?_⟩
 ·rw[List.range_succ];exact(List.perm_middle.trans ((List.Perm.cons i h2).trans (List.perm_append_singleton i (List.range i)).symm))
 rw[apL,apg];refine⟨pA,⟨fun x hx=>.inl (h4 x hx),pB⟩,fun x hx y hy=>?_⟩;rcases aov.1 hy with rfl|hy
 ·exact hA x hx
 exact pAB x hx y hy
theorem ang{G:List Int}{n:Nat}{arr:List Nat}(h:aeq G n n arr)(hn:G.length=n):Orde G arr:=by
 obtain⟨P,rfl,h2,h3⟩:=h;have:(List.range n).drop n=[]:=by simp
 rw[this,apj,];subst hn;exact⟨h2,h3⟩
structure OwnI(B:Nat)(w:World)(g cap:Nat)(l:List Int):Prop where
 row:w.ownsRow B 3 1 (.slice (some ⟨g,0,none⟩) l.length cap) l.length (l.map (Value.int .i64))
 base:B<=g
theorem OwnI.cell{B:Nat}{w:World}{g cap:Nat}{l:List Int}(h:OwnI B w g cap l)(j:Nat)(hj:j<l.length):w.cell? ⟨g,j,none⟩=some (.int .i64 (l.getD j 0)):=by
 rw[h.row.cellAt j om];simp[aoh,hj]
theorem OwnI.frozen{B:Nat}{w:World}{g cap:Nat}{l:List Int}(h:OwnI B w g cap l)(j:Nat):w.frozen? ⟨g,j,none⟩=false:=h.row.frozenAt j
theorem OwnI.set{B:Nat}{w:World}{g cap:Nat}{l:List Int}(h:OwnI B w g cap l)(j:Nat)(x:Int):OwnI B (w.setCell ⟨g,j,none⟩ (.int .i64 x)) g cap (l.set j x):=
 ⟨by
  have:=(h.row.stored j (.int .i64 x)).1
  have e:(l.set j x).length=l.length:=ap8
  rw[<-List.map_set]at this;rw[e];exact this,h.base⟩
theorem OwnI.keep{B:Nat}{w W:World}{g cap:Nat}{l:List Int}(h:OwnI B w g cap l)(hk:W.heap[g]? =w.heap[g]?):OwnI B W g cap l:=by
 refine⟨⟨h.row.1,?_⟩,h.base⟩;rcases h.row.2 with h2|⟨g',cap',cur,h2,h3,h4,h5⟩
 ·exact .inl h2
 simp only[Value.slice.injEq,Option.some.injEq,Addr.mk.injEq]at h2;obtain⟨⟨rfl, -⟩, -,rfl⟩:=h2;exact .inr ⟨_,_,cur,rfl,h3,hk.trans h4,h5⟩
theorem OwnI.lt{B:Nat}{w:World}{g cap:Nat}{l:List Int}(h:OwnI B w g cap l):g<w.heap.size:=by
 rcases h.row.2 with⟨h2,_⟩|⟨g',cap',cur,h2,h3,h4,h5⟩
 ·cases h2
 simp only[Value.slice.injEq,Option.some.injEq,Addr.mk.injEq]at h2;obtain⟨⟨rfl, -⟩, -,rfl⟩:=h2;exact(aog.1 h4).1
theorem OwnI.below{B:Nat}{w W:World}{g cap:Nat}{l:List Int}(h:OwnI B w g cap l)(hb:Below w.heap.size w W):OwnI B W g cap l:=h.keep (hb.block _ h.lt)
theorem OwnI.ints{B:Nat}{w:World}{g cap:Nat}{l:List Int}(h:OwnI B w g cap l)(hl:l.length<=100000):IntsAt w (.slice (some ⟨g,0,none⟩) l.length cap) l:=own_ints h.row om
structure KG(n0 g:Nat)(w W:World):Prop where
 blk:∀k,k<w.heap.size->k≠g->W.heap[k]? =w.heap[k]?
 bel:Below n0 w W
 sz:w.heap.size<=W.heap.size
theorem KG.refl(n0 g:Nat)(w:World):KG n0 g w w:=⟨fun _ _ _=>rfl,aoi _ _,aof _⟩
theorem KG.below{n0 g:Nat}{w W W':World}(h:KG n0 g w W)(hn:n0<=W.heap.size)(hb:Below W.heap.size W W'):KG n0 g w W':=
 ⟨fun k h1 h2=>(hb.block k (by have:=h.sz;omega)).trans (h.blk k h1 h2),h.bel.trans (hb.mono hn),aor h.sz hb.size⟩
theorem KG.set{n0 g:Nat}{w W:World}(h:KG n0 g w W)(hg:n0<=g)(j:Nat)(v:Value):KG n0 g w (W.setCell ⟨g,j,none⟩ v):=
 ⟨fun k h1 h2=>(aok _ _ _ k h2).trans (h.blk k h1 h2),h.bel.setCell (p:=⟨g,j,none⟩) hg v,by simpa using h.sz⟩
theorem KG.trans{n0 g:Nat}{a b c:World}(h:KG n0 g a b)(k:KG n0 g b c):KG n0 g a c:=
 ⟨fun j h1 h2=>(k.blk j (by have:=h.sz;omega) h2).trans (h.blk j h1 h2),h.bel.trans k.bel,aor h.sz k.sz⟩
theorem afA{n0 g cap Bx b off capR n:Nat}{Q:Int}{R:List a04}{G:List Int}{w:World}(hrep:Rep Q R G)(hm:Mod R)(hn:G.length=n)(h1:1<=n)(h8:n<=8)
  (hO:OwnI n0 w g cap (asI (List.range n)))(hR:RatBox Bx b off capR R w)(hne:Bx≠g/\b≠g)(hlt:Bx<w.heap.size/\b<w.heap.size)(hn0:n0<=w.heap.size):
  Calls prog 304 #[.slice (some ⟨g,0,none⟩) n cap,.int .i64 0,.int .i64 n,.func (.func 292) #[] #[.pointer (some ⟨Bx,0,none⟩)]] w fun e w'=>
   (∃v,e= .returned v)/\(∃L,Orde G L/\OwnI n0 w' g cap (asI L))/\KG n0 g w w':=by
 have HREP:=hid hrep;have HM:=hid hm;have HN:=hid hn;have hrl:=hrep.len;have HRL:=hid (show R.length=n by omega);have HO:=hid hO;have HR:=hid hR;have HNE:=hid hne;have HLT:=hid hlt;clear hrep hm hn hO hR hne hrl hlt;go_enter func304,ntmps304;go_wp2;go_loopw [8] (fun iv wr=>∃(i:Nat) (arr:List Nat),1<=i/\i<=n/\iv= .int .i64 i/\Hid (aeq G n i arr)/\OwnI n0 wr g cap (asI arr)/\KG n0 g w wr) (fun iv _=>n-(intOf iv).toNat)
 case atStart=>exact⟨1,List.range n,aof _,h1,rfl,hid (ak0 G h1),HO.out,KG.refl _ _ _⟩
 case round=>
  obtain⟨i,arr,hi1,hi,rfl,HP,hOw,hK⟩:=hrel;obtain⟨wo,rfl⟩:∃wo:World,wo=wr:=⟨_,rfl⟩
  by_cases hin:i<n
  ·have hin':(i:Int)<(n:Int):=om;have HI0:=hid (ak1 HP.out hin);go_wp2;go_loopw [9] (fun jv wr=>∃(j:Nat) (arr:List Nat),jv= .int .i64 j/\Hid (a7u G n i j arr)/\OwnI n0 wr g cap (asI arr)/\KG n0 g w wr) (fun jv _=>(intOf jv).toNat)
   case atStart=>exact⟨i,arr,rfl,HI0,hOw,hK⟩
   case round=>
    clear hOw hK HI0 HP;obtain⟨j,arr,rfl,HI,hOw,hK⟩:=hrel;obtain⟨hal,hji⟩:=anf HI.out hin;have hal':(asI arr).length=n:=by rw[agd];exact hal
    have HAL:=hid hal;have HAL':=hid hal';clear hal hal';rcases j with _|j
    ·have hP:=hid (aer HI.out hin (.inl rfl));rw[show ((0:Nat):Int)=0 from rfl];have HOw:=hid hOw;have HK:=hid hK;clear hOw hK;go_wp2;refine wp_region_quiet_lit ot ot ?_;repeat (any_goals (first|go_big_quiet_step (fail)|quiet_step (fail)))
     all_goals (refine wpQuiet_nil ?_;intro _ hw';obtain⟨nq,hw''⟩:=hw';subst hw'')
     all_goals go_wp2
     all_goals go_roundw
     all_goals try (case rel=>exact⟨i+1,arr,om,om,by go_num,hP,HOw.out.below (belowN0 (aoi _ _) _),HK.out.below (aor hn0 HK.out.sz) (belowN0 (aoi _ _) _)⟩)
     all_goals (case measure=>simp[intOf];omega)
    have hjn:j+1<n:=om;have k1:=hOw.cell (j+1) (by rw[HAL'.out];omega);have k0:=hOw.cell j (by rw[HAL'.out];omega);have f1:=hOw.frozen (j+1);have f0:=hOw.frozen j
    have ea:(asI arr).getD (j+1) 0=(i:Int):=by
     rw[aep (by rw[HAL.out];omega)];have:=anQ HI.out;rw[aoh,aoj (by rw[HAL.out];omega)]at this;exact congrArg (fun(x:Nat)=>(x:Int)) this
    have hpv:=alK HI.out;obtain⟨y,hy⟩:∃y,y=arr.getD j 0:=⟨_,rfl⟩
    have eb:(asI arr).getD j 0=(y:Int):=by
     rw[aep (by rw[HAL.out];omega),hy,aoh,aoj (by rw[HAL.out];omega)];rfl
    rw[ea]at k1;rw[eb]at k0;rw[<-hy]at hpv;have HY:=hid hy;clear hy ea eb;have HOw:=hid hOw;have HK:=hid hK;have hRB:=HR.out.keep (W:=wr) (fun k hc=>hK.blk k (by rcases hc with rfl|rfl;exact HLT.out.1;exact HLT.out.2) (by rcases hc with rfl|rfl;exact HNE.out.1;exact HNE.out.2));have HRB:=hid hRB;have hyi:y<n:=om;have CW:=hid (fun W (hW:KBs wr W)=>(ahF (HRB.out.below hW) HM.out (by rw[HRL.out];exact h8) (a:=i) (c:=y) (by rw[HRL.out];exact hin) (by rw[HRL.out];exact hyi)).mono (R':=fun e w'=>e= .returned (.int .i64 (Lib.compareInt ((R.getD y (0,0)).1 * (R.getD i (0,0)).2) ((R.getD i (0,0)).1 * (R.getD y (0,0)).2)))/\KBs wr w') (fun e w' ⟨h5,h6⟩=>⟨h5,KBs.call hW h6⟩));have LT:=hid (HREP.out.lt (i:=y) (j:=i) (by rw[HN.out];exact hyi) (by rw[HN.out];exact hin));have r1:∀W,KBs wr W->W.cell? ⟨g,j+1,none⟩=some (.int .i64 i):=fun W h=>keep_cell h k1;have r0:∀W,KBs wr W->W.cell? ⟨g,j,none⟩=some (.int .i64 y):=fun W h=>keep_cell h k0;have e1:IntKind.i64.wrap ((j:Int)+1-1)=(j:Int):=by rw[Int.add_sub_cancel];exact IntWalk.i64_in _ om
    have e2:IntKind.i64.wrap (j:Int)=(j:Int):=IntWalk.i64_in _ om;have hd1:decide ((0:Int)<(j:Int)+1)=true:=decide_eq_true om;have i1:(j:Int)+1<(n:Int):=om;have i2:(0:Int)<=(j:Int)+1:=om;have i3:((j:Int)+1).toNat=j+1:=om
    have i0:(j:Int)<(n:Int):=om;rw[show (((j+1:Nat)):Int)=(j:Int)+1 from rfl];clear hOw hK hRB k1 k0 f1 f0;by_cases hyl:G.getD y 0<G.getD i 0
    ·have hcv:=ajU (LT.out.2 hyl);rw[hcv]at CW
     have hSW:=hid (show a7u G n i j ((arr.set (j+1) y).set j i) by
      have h:=alL HI.out (by rw[<-HY.out];exact hyl);rw[<-HY.out]at h;exact h)
     clear hcv hyl LT;go_wp2
     go_region_held3 (fun W=>KBs wr W) (first|exact KBs.drew (KBs.refl _)|assumption|(apply KBs.drew;assumption)) (first
      |(go_at_call 292;(with_reducible refine(CW.out _ ?_).mono ?_);(first|exact KBs.drew (KBs.refl _)|exact KBs.refl _);rintro e w5 ⟨rfl,k5⟩)
      |fail)
     have K5:=hid k5;have HO5:=hid (HOw.out.below K5.out);have k1:=K5.out |> r1 _;have k0:=K5.out |> r0 _;have f1:=HO5.out.frozen (j+1);have f0:=HO5.out.frozen j;clear r1 r0 k5 CW;go_wp2;go_region
     have HOS:=hid (show OwnI n0 ((w5.setCell ⟨g,j+1,none⟩ (.int .i64 y)).setCell ⟨g,j,none⟩ (.int .i64 i)).drew g cap (asI ((arr.set (j+1) y).set j i)) by
      have h:=(HO5.out.set (j+1) y).set j i
      rw[age,age]at h;exact h.keep rfl)
     have HKS:=hid (show KG n0 g w ((w5.setCell ⟨g,j+1,none⟩ (.int .i64 y)).setCell ⟨g,j,none⟩ (.int .i64 i)).drew from
      (((HK.out.below (aor hn0 HK.out.sz) K5.out).set HOw.out.base (j+1) (.int .i64 y)).set HOw.out.base j (.int .i64 i)).below (aor hn0 (by have:=(HK.out.below (aor hn0 HK.out.sz) K5.out).sz;simpa using this)) ((aoi _ _).drew))
     clear k1 k0 f1 f0;go_wp2;go_roundw
     case rel=>exact⟨j,(arr.set (j+1) y).set j i,rfl,hSW,HOS.out,HKS.out⟩
     case measure=>simp[intOf]
    have hcv:=ajV (fun h=>hyl (LT.out.1 h));generalize Lib.compareInt ((R.getD y (0,0)).1 * (R.getD i (0,0)).2) ((R.getD i (0,0)).1 * (R.getD y (0,0)).2)=cv at *;have hP:=hid (aer HI.out hin (.inr (by rw[Nat.add_sub_cancel,<-HY.out];exact hyl)));clear hyl LT;go_wp2
    go_region_held3 (fun W=>KBs wr W) (first|exact KBs.drew (KBs.refl _)|assumption|(apply KBs.drew;assumption)) (first
     |(go_at_call 292;(with_reducible refine(CW.out _ ?_).mono ?_);(first|exact KBs.drew (KBs.refl _)|exact KBs.refl _);rintro e w5 ⟨rfl,k5⟩)
     |fail)
    have K5:=hid k5;clear r1 r0 k5 CW;go_wp2;go_roundw
    case rel=>exact⟨i+1,arr,om,om,by go_num,hP,HOw.out.below K5.out,HK.out.below (aor hn0 HK.out.sz) K5.out⟩
    case measure=>simp[intOf];omega
  obtain rfl:i=n:=om;have hE:=hid (ang HP.out HN.out);go_wp2;go_end0
  exact⟨⟨_,rfl⟩,⟨arr,hE.out,hOw⟩,hK⟩
theorem abR{n0 g cap Bx b off capR n:Nat}{Q:Int}{R:List a04}{G:List Int}{w:World}(hrep:Rep Q R G)(hm:Mod R)(hn:G.length=n)(h1:1<=n)(h8:n<=8)
  (hO:OwnI n0 w g cap (asI (List.range n)))(hR:RatBox Bx b off capR R w)(hne:Bx≠g/\b≠g)(hlt:Bx<w.heap.size/\b<w.heap.size)(hn0:n0<=w.heap.size):
  Calls prog 291 #[.slice (some ⟨g,0,none⟩) n cap,.func (.func 292) #[] #[.pointer (some ⟨Bx,0,none⟩)]] w fun e w'=>
   (∃v,e= .returned v)/\(∃L,Orde G L/\OwnI n0 w' g cap (asI L))/\KG n0 g w w':=by
 have I:=hid (afA hrep hm hn h1 h8 hO hR hne hlt hn0)
 have S:Hid (Calls prog 297 #[.slice (some ⟨g,0,none⟩) n cap,.int .i64 n,.func (.func 292) #[] #[.pointer (some ⟨Bx,0,none⟩)]] w fun e w'=>
   (∃v,e= .returned v)/\(∃L,Orde G L/\OwnI n0 w' g cap (asI L))/\KG n0 g w w'):=hid (by
  have hd:decide ((20:Int)<=(n:Int))=false:=decide_eq_false om;have hd2:decide ((20:Int)<(n:Int))=false:=decide_eq_false om;have hd3:(n:Int)<20:=om;clear hrep hm hn hO hR hne hlt;go_enter func297,ntmps297;go_wp2;refine wp_loop_rounds 1 ?_;rw[rounds_succ];go_wp2_with fail
  refine I.out.mono ?_;rintro e w1 ⟨⟨u,rfl⟩,⟨L,hL,hOL⟩,hK⟩;have HO:=hid hOL;have HK:=hid hK;have HL:=hid hL;clear hOL hK hL;go_wp2;refine wp_loop_rounds 1 ?_;rw[rounds_succ];go_wp2;go_end0
  exact⟨⟨_,rfl⟩,⟨L,HL.out,HO.out⟩,HK.out⟩)
 clear I hrep hm hn hO hR hne hlt;go_enter func291,ntmps291;go_wp2_with fail
 refine S.out.mono ?_;rintro e w1 ⟨⟨u,rfl⟩,⟨L,hL,hOL⟩,hK⟩;have HO:=hid hOL;have HK:=hid hK;have HL:=hid hL;clear hOL hK hL;go_wp2;go_end0
 exact⟨⟨_,rfl⟩,⟨L,HL.out,HO.out⟩,HK.out⟩
end Go.Proofs.YtdfkaijeppdhaaaGreatDoor.Fd
namespace Go.Proofs.YtdfkaijeppdhaaaGreatDoor.Fd
open Go.RowKit
theorem anh{x Q:Int}(hQ:1<=Q):(red x Q).1 / (red x Q).2=x / Q:=by
 obtain⟨g,hg,e1,e2,h3,_⟩:=a2a x Q hQ;generalize red x Q=a at *;rw[e1,e2,Int.mul_ediv_mul_of_pos _ _ om]
theorem ani{x Q:Int}(hQ:1<=Q):((red x Q).1 % (red x Q).2) * Q=(x % Q) * (red x Q).2:=by
 obtain⟨g,hg,e1,e2,h3,_⟩:=a2a x Q hQ;generalize red x Q=a at *;have h:x % Q=g * (a.1 % a.2):=by rw[e1,e2,Int.mul_emod_mul_of_pos _ _ om]
 rw[h,e2];simp only[apq,aoC,aps]
theorem aes(g:Int->Int):∀c:List Int,(c.map g).sum=a0w g c
 |[]=>rfl
 |x::c=>by rw[aoJ,List.sum_cons,aes g c];rfl
theorem anj(g:Int->Int)(c:List Int):tot (c.map g)=a0w g c:=by
 rw[a5L];induction c with
 |nil=>rfl
 |cons x c ih=>simp only[aoJ,a0w,id];rw[ih]
theorem a9i(f:Int->Int)(Q:Int):∀c:List Int,a0w f c=a0w (fun x=>f x / Q) c * Q+a0w (fun x=>f x % Q) c
 |[]=>by simp[a0w]
 |x::c=>by
  have ih:=a9i f Q c;have:=Int.emod_add_mul_ediv (f x) Q;simp only[a0w];rw[ih,apS];have h2:f x / Q * Q=Q * (f x / Q):=aps _ _;omega
def qsL(l:List a04):List Int:=l.map fun x=>x.1 / x.2
def frL(l:List a04):List a04:=l.map fun x=>(x.1 % x.2,x.2)
structure Whl(n:Int)(l:List a04)(G:List Int)(Q:Int):Prop where
 rep:Rep Q (frL l) G
 len:G.length=l.length
 bd:∀i,i<G.length->0<=G.getD i 0/\G.getD i 0<Q
 sum:G.sum=(n-tot (qsL l)) * Q
 cvl:Cvl (qsL l)
 lo:0<=n-tot (qsL l)
 hi:n-tot (qsL l)<=l.length
 mod:Mod (frL l)
 pos:∀i,i<l.length->0<=(l.getD i (0,0)).1/\(l.getD i (0,0)).1<=10000000/\1<=(l.getD i (0,0)).2/\(l.getD i (0,0)).2<=10000
theorem abe:∀(l:List Int),(∀x∈l,0<=x)->0<=l.sum
 |[],_=>by simp
 |x::l,h=>by
  have h1:=h x oz;have h2:=abe l (fun y hy=>h y (by simp[hy]));rw[List.sum_cons];omega
theorem anR{c:List Int}{n:Int}{l:List a04}{f:Int->Int}{Q:Int}(hc:Cvl c)(h:Shr c n l f Q)(hn:0<=n):Whl n l (c.map fun x=>f x % Q) Q:=by
 have hQ:=h.hQ;have ho:=aga h;have hm:=agb hc ho;have hl:l.length=c.length:=ho.1
 have e1:qsL l=c.map fun x=>f x / Q:=by
  unfold qsL;rw[h.aw,apx];apply apN;intro x _;exact anh hQ
 have hs:=a9i f Q c;rw[h.sum]at hs
 have hsum:(c.map fun x=>f x % Q).sum=(n-tot (qsL l)) * Q:=by
  rw[aes,e1,anj,apT];omega
 have hb:∀i,i<(c.map fun x=>f x % Q).length->0<=(c.map fun x=>f x % Q).getD i 0/\(c.map fun x=>f x % Q).getD i 0<Q:=fun i hi=>by
  rw[aoB]at hi;have:(c.map fun x=>f x % Q).getD i 0=f (c.getD i 0) % Q:=by simp[aoh,hi]
  rw[this];exact⟨apZ _ om,apW _ om⟩
 have hall:∀x∈(c.map fun x=>f x % Q),0<=x/\x<=Q:=fun x hx=>by
  obtain⟨y,_,rfl⟩:=ap1.1 hx;have h1:=apZ (f y) (show Q≠0 by omega);have h2:=apW (f y) (show 0<Q by omega);omega
 have s0:=abe _ (fun x hx=>(hall x hx).1);have s1:=a6v _ (c.map fun x=>f x % Q).length (fun x hx=>(hall x hx).2) om
 rw[aoK,hsum,aoB]at s1;rw[hsum]at s0;have k1:n-tot (qsL l)<=(c.length:Int):=Int.le_of_mul_le_mul_right s1 om
 have k0:0<=n-tot (qsL l):=by
  by_cases hneg:n-tot (qsL l)<0
  ·have:(n-tot (qsL l)) * Q<=(-1) * Q:=aoo om om;omega
  omega
 refine⟨⟨by simp[frL,hl],hQ,fun i hi=>?_,fun i hi=>?_⟩,by simp[hl],hb,hsum,⟨?_,?_,?_⟩,k0,om,?_,fun i hi=>?_⟩
 ·rw[aoB]at hi;have:(frL l).getD i (0,0)=((l.getD i (0,0)).1 % (l.getD i (0,0)).2,(l.getD i (0,0)).2):=by simp[frL,aoh,show i<l.length by omega]
  rw[this];exact(ho.2 i hi).1
 ·rw[aoB]at hi;have e2:(frL l).getD i (0,0)=((l.getD i (0,0)).1 % (l.getD i (0,0)).2,(l.getD i (0,0)).2):=by simp[frL,aoh,show i<l.length by omega]
  have e3:(c.map fun x=>f x % Q).getD i 0=f (c.getD i 0) % Q:=by simp[aoh,hi]
  rw[e2,e3,h.aw,acG hi];exact ani hQ
 ·rw[e1,aoB];exact hc.lo
 ·rw[e1,aoB];exact hc.hi
 ·rw[e1];intro y hy;obtain⟨x,hx,rfl⟩:=ap1.1 hy;have h1:=h.lo x hx;have h2:=h.hi x hx;have h3:=hc.holds x hx;refine⟨Int.ediv_nonneg h1 om,?_⟩;have:=Int.ediv_le_ediv (show 0<Q by omega) h2;rw[Int.mul_ediv_cancel _ om]at this;omega
 ·intro y hy;obtain⟨x,hx,rfl⟩:=ap1.1 hy;have h1:=hm x hx;have h2:=apZ x.1 (show x.2≠0 by omega);have h3:=apW x.1 (show 0<x.2 by omega);exact⟨by simp only;omega,by simp only;omega,h1.2.2.1,h1.2.2.2⟩
 obtain⟨h1,h2,h3,h4⟩:=ho.2 i om;have hb:=hc.holds _ (a1v (show i<c.length by omega));have h5:c.getD i 0 * (l.getD i (0,0)).2<=1000 * (l.getD i (0,0)).2:=aoo om om
 omega
end Go.Proofs.YtdfkaijeppdhaaaGreatDoor.Fd
namespace Go.Proofs.YtdfkaijeppdhaaaGreatDoor.Fd
open Go.RowKit
theorem a2g{W:World}{B g n cap sz:Nat}{e:TypeId}{xs:List Value}(h:W.ownsRow B e sz (.slice (some ⟨g,0,none⟩) n cap) n xs):∃cur,B<=g/\W.heap[g]? =some (.cells cur e (0,0)):=by
 rcases h.2 with⟨h1,_⟩|⟨g',cap',cur,h1,h2,h3,_⟩
 ·cases h1
 simp only[Value.slice.injEq,Option.some.injEq,Addr.mk.injEq]at h1;obtain⟨⟨rfl, -⟩, -, -⟩:=h1;exact⟨cur,h2,h3⟩
theorem aet{W:World}{B B' g g' n n' cap cap' sz sz':Nat}{e e':TypeId}{xs xs':List Value}(h:W.ownsRow B e sz (.slice (some ⟨g,0,none⟩) n cap) n xs)(h':W.ownsRow B' e' sz' (.slice (some ⟨g',0,none⟩) n' cap') n' xs')(hne:e≠e'):g≠g':=by
 rintro rfl;obtain⟨c,_,h1⟩:=a2g h;obtain⟨c',_,h2⟩:=a2g h';rw[h1]at h2;simp only[Option.some.injEq,Obj.cells.injEq]at h2;exact hne h2.2.1
theorem a7v{W:World}{B g n cap sz Bx:Nat}{e e':TypeId}{xs:List Value}{cs:Array Value}(h:W.ownsRow B e sz (.slice (some ⟨g,0,none⟩) n cap) n xs)(h':W.heap[Bx]? =some (.cells cs e' (0,0)))(hne:e≠e'):g≠Bx:=by
 rintro rfl;obtain⟨c,_,h1⟩:=a2g h;rw[h1]at h';simp only[Option.some.injEq,Obj.cells.injEq]at h';exact hne h'.2.1
theorem a0P{W W':World}{B g n cap sz:Nat}{e:TypeId}{xs:List Value}(h:W.ownsRow B e sz (.slice (some ⟨g,0,none⟩) n cap) n xs)(hk:W'.heap[g]? =W.heap[g]?):W'.ownsRow B e sz (.slice (some ⟨g,0,none⟩) n cap) n xs:=by
 refine⟨h.1,?_⟩;rcases h.2 with h1|⟨g',cap',cur,h1,h2,h3,h4⟩
 ·exact .inl h1
 simp only[Value.slice.injEq,Option.some.injEq,Addr.mk.injEq]at h1;obtain⟨⟨rfl, -⟩, -,rfl⟩:=h1;exact .inr ⟨_,_,cur,rfl,h2,hk.trans h3,h4⟩
structure WS(n0 B8 b cap go gr n:Nat)(R:List a04)(out ord:List Int)(W:World):Prop where
 box:W.heap[B8]? =some (.cells #[.slice (some ⟨b,0,none⟩) n cap] 195 (0,0))
 row:W.ownsRow n0 199 2 (.slice (some ⟨b,0,none⟩) n cap) n (a17 R)
 rout:W.ownsRow n0 3 1 (.slice (some ⟨go,0,none⟩) n n) n (out.map (Value.int .i64))
 rord:W.ownsRow n0 3 1 (.slice (some ⟨gr,0,none⟩) n n) n (ord.map (Value.int .i64))
 ne:go≠gr
 lr:R.length=n
 lo:out.length=n
 ld:ord.length=n
theorem WS.nes{n0 B8 b cap go gr n:Nat}{R:List a04}{out ord:List Int}{W:World}(h:WS n0 B8 b cap go gr n R out ord W):b≠B8/\go≠B8/\gr≠B8/\b≠go/\b≠gr:=
 ⟨a7v h.row h.box ox,a7v h.rout h.box ox,a7v h.rord h.box ox,aet h.row h.rout ox,aet h.row h.rord ox⟩
theorem WS.lt{n0 B8 b cap go gr n:Nat}{R:List a04}{out ord:List Int}{W:World}(h:WS n0 B8 b cap go gr n R out ord W):B8<W.heap.size/\b<W.heap.size/\go<W.heap.size/\gr<W.heap.size/\n0<=b/\n0<=go/\n0<=gr:=by
 obtain⟨_,h1,h2⟩:=a2g h.row;obtain⟨_,h3,h4⟩:=a2g h.rout;obtain⟨_,h5,h6⟩:=a2g h.rord;exact⟨(aog.1 h.box).1,(aog.1 h2).1,(aog.1 h4).1,(aog.1 h6).1,h1,h3,h5⟩
theorem WS.block{n0 B8 b cap go gr n:Nat}{R:List a04}{out ord:List Int}{W W':World}(h:WS n0 B8 b cap go gr n R out ord W)(hk:∀k,k=B8\/k=b\/k=go\/k=gr->W'.heap[k]? =W.heap[k]?):WS n0 B8 b cap go gr n R out ord W':=
 ⟨(hk _ (.inl rfl)).trans h.box,a0P h.row (hk _ (.inr (.inl rfl))),a0P h.rout (hk _ (.inr (.inr (.inl rfl)))),a0P h.rord (hk _ (.inr (.inr (.inr rfl)))),h.ne,h.lr,h.lo,h.ld⟩
theorem WS.below{n0 B8 b cap go gr n:Nat}{R:List a04}{out ord:List Int}{W W':World}(h:WS n0 B8 b cap go gr n R out ord W)(hb:Below W.heap.size W W'):WS n0 B8 b cap go gr n R out ord W':=
 h.block fun k hk=>hb.block k (by
  obtain⟨h1,h2,h3,h4,_⟩:=h.lt;rcases hk with rfl|rfl|rfl|rfl<;>assumption)
theorem WS.setOut{n0 B8 b cap go gr n:Nat}{R:List a04}{out ord:List Int}{W:World}(h:WS n0 B8 b cap go gr n R out ord W)(k:Nat)(x:Int):WS n0 B8 b cap go gr n R (out.set k x) ord (W.setCell ⟨go,k,none⟩ (.int .i64 x)):=by
 obtain⟨h1,h2,h3,h4,h5⟩:=h.nes;have hk:∀j,j≠go->(W.setCell ⟨go,k,none⟩ (.int .i64 x)).heap[j]? =W.heap[j]? :=fun j hj=>aok _ _ _ j hj
 refine⟨(hk _ (Ne.symm h2)).trans h.box,a0P h.row (hk _ h4),?_,a0P h.rord (hk _ (Ne.symm h.ne)),h.ne,h.lr,by rw[ap8];exact h.lo,h.ld⟩;rw[List.map_set];exact(h.rout.stored k (.int .i64 x)).1
theorem WS.setOrd{n0 B8 b cap go gr n:Nat}{R:List a04}{out ord:List Int}{W:World}(h:WS n0 B8 b cap go gr n R out ord W)(k:Nat)(x:Int):WS n0 B8 b cap go gr n R out (ord.set k x) (W.setCell ⟨gr,k,none⟩ (.int .i64 x)):=by
 obtain⟨h1,h2,h3,h4,h5⟩:=h.nes;have hk:∀j,j≠gr->(W.setCell ⟨gr,k,none⟩ (.int .i64 x)).heap[j]? =W.heap[j]? :=fun j hj=>aok _ _ _ j hj
 refine⟨(hk _ (Ne.symm h3)).trans h.box,a0P h.row (hk _ h5),a0P h.rout (hk _ h.ne),?_,h.ne,h.lr,h.lo,by rw[ap8];exact h.ld⟩;rw[List.map_set];exact(h.rord.stored k (.int .i64 x)).1
theorem a7w:∀(l:List a04) (k:Nat) (x:Int),k<l.length->a17 (l.set k (x,(l.getD k (0,0)).2))=(a17 l).set (k * 2) (.int .i64 x)
 |y::l,0,x,_=>by simp[a17,a6u]
 |y::l,k+1,x,h=>by
  have ih:=a7w l k x (by simpa using h);have e:∀l:List a04,a17 (y::l)=a6u y++a17 l:=fun l=>by simp[a17]
  rw[aoN,aqa,e,e,ih];simp[a6u,show (k+1) * 2=k * 2+2 by omega]
theorem WS.setR{n0 B8 b cap go gr n:Nat}{R:List a04}{out ord:List Int}{W:World}(h:WS n0 B8 b cap go gr n R out ord W)(k:Nat)(x:Int)(hk:k<n):WS n0 B8 b cap go gr n (R.set k (x,(R.getD k (0,0)).2)) out ord (W.setCell ⟨b,k * 2,none⟩ (.int .i64 x)):=by
 obtain⟨h1,h2,h3,h4,h5⟩:=h.nes;have hb:∀j,j≠b->(W.setCell ⟨b,k * 2,none⟩ (.int .i64 x)).heap[j]? =W.heap[j]? :=fun j hj=>aok _ _ _ j hj
 refine⟨(hb _ (Ne.symm h1)).trans h.box,?_,a0P h.rout (hb _ (Ne.symm h4)),a0P h.rord (hb _ (Ne.symm h5)),h.ne,by rw[ap8];exact h.lr,h.lo,h.ld⟩;rw[a7w R k x (by rw[h.lr];exact hk)];exact(h.row.stored (k * 2) (.int .i64 x)).1
theorem WS.facts{n0 B8 b cap go gr n:Nat}{R:List a04}{out ord:List Int}{W:World}(h:WS n0 B8 b cap go gr n R out ord W){k:Nat}(hk:k<n):
  W.cell? ⟨B8,0,none⟩=some (.slice (some ⟨b,0,none⟩) n cap)/\W.cell? ⟨b,k * 2,none⟩=some (.int .i64 (R.getD k (0,0)).1)/\W.cell? ⟨b,k * 2+1,none⟩=some (.int .i64 (R.getD k (0,0)).2)/\
  W.cell? ⟨go,k,none⟩=some (.int .i64 (out.getD k 0))/\W.cell? ⟨gr,k,none⟩=some (.int .i64 (ord.getD k 0))/\W.frozen? ⟨b,k * 2,none⟩=false/\W.frozen? ⟨go,k,none⟩=false/\W.frozen? ⟨gr,k,none⟩=false:=by
 have hb:=h.box;obtain⟨e1,e2⟩:=a47 R k (by rw[h.lr];exact hk);refine⟨by simp[World.cell?,hb],(h.row.cellAt _ om).trans e1,(h.row.cellAt _ om).trans e2,?_,?_,h.row.frozenAt _,h.rout.frozenAt _,h.rord.frozenAt _⟩
 ·rw[h.rout.cellAt k om];simp[aoh,h.lo,hk]
 rw[h.rord.cellAt k om];simp[aoh,h.ld,hk]
end Go.Proofs.YtdfkaijeppdhaaaGreatDoor.Fd
namespace Go.Proofs.YtdfkaijeppdhaaaGreatDoor.Fd
open Lib (hid)
open Proofs.Tryz Go.RowKit
def a1H{α:Type}(A B:List α)(k:Nat):List α:=A.take k++B.drop k
theorem a7x{α:Type}(A B:List α):a1H A B 0=B:=by simp[a1H]
theorem a8X{α:Type}{A B:List α}{n:Nat}(hA:A.length=n)(hB:B.length=n):a1H A B n=A:=by
 unfold a1H;rw[aou om,apy om,apj]
theorem a6K{α:Type}{A B:List α}{n k:Nat}(hA:A.length=n)(hk:k<=n)(d:α):(a1H A B k).getD k d=B.getD k d:=by
 unfold a1H;rw[aoh,aoX (by rw[aoy];omega)];simp[aoh,show min k A.length=k by omega]
theorem a8Y{α:Type}{A B:List α}{n k:Nat}(hA:A.length=n)(hB:B.length=n)(hk:k<n)(d:α):(a1H A B k).set k (A.getD k d)=a1H A B (k+1):=by
 unfold a1H;have e:(A.take k).length=k:=by rw[aoy];omega
 rw[aoL (show k<B.length by omega),List.set_append_right _ _ om,e,aq8,aoU,aon (show k<A.length by omega),aoT];simp[aoh,show k<A.length by omega]
theorem alM{W:World}{s:Nat}(hs:W.heap.size=s)(x y:Value)(T:TypeId):(W.alloc (.cells #[x,y] T)).cell? ⟨s,0,none⟩=some x/\(W.alloc (.cells #[x,y] T)).cell? ⟨s,1,none⟩=some y:=by
 subst hs;exact⟨by simp,by simp⟩
theorem incL_bd:∀(L:List Nat) (q:List Int) (B:Int),(∀i,0<=q.getD i 0/\q.getD i 0<=B)->∀x,0<=(incL q L).getD x 0/\(incL q L).getD x 0<=B+L.length
 |[],q,B,h,x=>by simpa [incL]using h x
 | i::L,q,B,h,x=>by
  have ih:=incL_bd L (q.set i (q.getD i 0+1)) (B+1) (fun j=>by
   have h1:=h i;have h2:=h j;by_cases hj:j=i
   ·subst hj;by_cases hl:j<q.length
    ·rw[show (q.set j (q.getD j 0+1)).getD j 0=q.getD j 0+1 by simp[aoh,hl]];omega
    rw[List.set_eq_of_length_le om];omega
   rw[show (q.set i (q.getD i 0+1)).getD j 0=q.getD j 0 by simp[aoh,aq4,Ne.symm hj]];omega) x
  have e:incL q (i::L)=incL (q.set i (q.getD i 0+1)) L:=rfl;rw[e];have hl:((i::L).length:Int)=(L.length:Int)+1:=by simp
  omega
def gL(c:List Int)(n r:Int):List Int:=c.map fun x=>frF c n r x % frQ c n r
theorem whl_share{c:List Int}{n r:Int}(h:shareE c n r=0):Whl n (shareL c n r) (gL c n r) (frQ c n r):=by
 obtain⟨ha,hr⟩:=a6d h;obtain⟨hc,h1,h2⟩:=a5P ha;exact anR hc (hc.shr2 h1 h2 hr) h1
def whN(n:Int)(l:List a04):Nat:=(n-tot (qsL l)).toNat
def GivesH(c:List Int)(n r:Int)(w:World)(e:Ending)(w':World):Prop:=
 ∃ov res,e= .returned (.tuple #[ov,.int .i64 (shareE c n r)])/\IntsAt w' ov res/\Below w.heap.size w w'/\(shareE c n r≠0->res=[])/\
  (shareE c n r=0->∃L,Orde (gL c n r) L/\res=incL (qsL (shareL c n r)) (L.take (whN n (shareL c n r))))
theorem abf(N:Nat):(madeCells (Value.int .i64 0).cells (N * 1)).toList=(List.replicate N (0:Int)).map (Value.int .i64):=by
 unfold madeCells;apply List.ext_getElem
 ·simp
 intro i h1 h2;simp[Value.cells,Nat.mod_one]
theorem tWhole_any(v:Value)(c:List Int)(n r:Int)(w:World)(hv:IntsAt w v c):
  Calls prog 289 #[v,.int .i64 n,.int .i64 r] w (GivesH c n r w):=by
 have SH:=hid (ahx v c n r w hv);unfold ab8 at SH;have hl:=abb c n r;clear hv;by_cases h0:shareE c n r=0
 ·have K:=shOk h0;have WH:=hid (whl_share h0);have E0:=hid h0;rw[K.val]at SH hl;have hpos:=K.pos;have hhi:=K.hi;rw[h0]at SH;clear h0 K
  have GD:Hid (∀e w',(∃ov L,e=Ending.returned (.tuple #[ov,.int .i64 0])/\Orde (gL c n r) L/\IntsAt w' ov (incL (qsL (shareL c n r)) (L.take (whN n (shareL c n r))))/\Below w.heap.size w w')->GivesH c n r w e w'):=hid (fun e w' ⟨ov,L,h1,h2,h3,h4⟩=>
   ⟨ov,_,by rw[E0.out];exact h1,h3,h4,fun h=>absurd E0.out h,fun _=>⟨L,h2,rfl⟩⟩)
  refine Calls.mono ?_ GD.out;clear GD E0;generalize hG:gL c n r=G at *;generalize frQ c n r=Q at *;clear hG;generalize hll:shareL c n r=l at *;clear hll;obtain⟨N,hN⟩:∃N,N=l.length:=⟨_,rfl⟩
  have HN:=hid hN;obtain⟨j0,hj0,hy0,hy1,hy2⟩:=info_parts Tryz.infoInt;go_enter func289,ntmps289;go_wp2_with fail
  refine SH.out.mono ?_;rintro e w1 ⟨v1,rfl,ho1,hb1⟩;obtain⟨b,cap,rfl,hbb,hbl⟩:=ho1.split hpos;have hrow:=ho1.row;rw[<-hN]at hrow⊢;have hpN:0<N:=om;have hN8:N<=8:=om;have HROW:=hid hrow;have HB1:=hid hb1;clear ho1 hb1 hl SH hrow hpos hhi hN;obtain⟨w2,hw2⟩:∃w2,w2=w1.alloc (.cells #[.slice (some ⟨b,0,none⟩) N cap] 195):=⟨_,rfl⟩
  have HW2:=hid hw2;have hb2:Below w1.heap.size w1 w2:=by rw[hw2];exact(aoi _ w1).alloc (aof _) _
  have HB2:=hid (HB1.out.trans (hb2.mono HB1.out.size));have hbx2:w2.heap[w1.heap.size]? =some (.cells #[.slice (some ⟨b,0,none⟩) N cap] 195 (0,0)):=by rw[hw2];exact World.alloc_heap_new w1 _
  have HX2:=hid hbx2;have HR2:=hid (a0P HROW.out (hb2.block _ hbl));clear hw2 hb2 hbx2;go_upto_region 4 with fail
  rw[<-HW2.out];have c8:w2.cell? ⟨w1.heap.size,0,none⟩=some (.slice (some ⟨b,0,none⟩) N cap):=by have h:=HX2.out;simp[World.cell?,h]
  go_upto_region 5 with(at_make;refine wpList_make_full _ rfl _ _ 122 rfl w.heap.size 3 j0 (.int .i64 0) 1 underlying122 hj0 hy0 hy1 .i64 .i64 _ _ N rfl rfl rfl rfl (by rw[hy2];omega) (by unfold maxLen;omega) HB2.out.size ?_;intro w3 hown3 hgrow3)
  have hb3:Below w2.heap.size w2 w3:=(aoi _ _).grown hgrow3 (aof _) (fun k e=>by cases e)
  have HB3:=hid (HB2.out.trans (hb3.mono HB2.out.size));rw[abf]at hown3;have HO3:=hid hown3;have c83:=keep_cell hb3 c8;have hbz:w1.heap.size<w2.heap.size:=(aog.1 HX2.out).1
  have HX3:=hid ((hb3.block _ hbz).trans HX2.out);have HR3:=hid (a0P HR2.out (hb3.block _ (Nat.lt_trans hbl hbz)));clear hown3 hgrow3 hb3 c8;go_upto_region 6 with(at_make;refine wpList_make_full _ rfl _ _ 122 rfl w.heap.size 3 j0 (.int .i64 0) 1 underlying122 hj0 hy0 hy1 .i64 .i64 _ _ N rfl rfl rfl rfl (by rw[hy2];omega) (by unfold maxLen;omega) HB3.out.size ?_;intro w4 hown4 hgrow4)
  have hb4:Below w3.heap.size w3 w4:=(aoi _ _).grown hgrow4 (aof _) (fun k e=>by cases e)
  have HB4:=hid (HB3.out.trans (hb4.mono HB3.out.size));rw[abf]at hown4
  have hs3:w2.heap.size<w3.heap.size:=by
   obtain⟨_,_,h⟩:=a2g HO3.out;exact(aog.1 h).1
  have W4:WS w.heap.size w1.heap.size b cap w2.heap.size w3.heap.size N l (List.replicate N 0) (List.replicate N 0) w4:=
   ⟨(hb4.block _ (Nat.lt_trans hbz hs3)).trans HX3.out,a0P HR3.out (hb4.block _ (Nat.lt_trans (Nat.lt_trans hbl hbz) hs3)),a0P HO3.out (hb4.block _ hs3),hown4,om,HN.out.symm,by simp,by simp⟩
  have HW4:=hid W4;have c84:=keep_cell hb4 c83;have hne8:¬w3.heap.size=w2.heap.size:=om;obtain⟨B8,hB8⟩:∃B8,B8=w1.heap.size:=⟨_,rfl⟩
  obtain⟨go,hgo⟩:∃go,go=w2.heap.size:=⟨_,rfl⟩
  obtain⟨gr,hgr⟩:∃gr,gr=w3.heap.size:=⟨_,rfl⟩
  rw[<-hB8,<-hgo,<-hgr]at HW4⊢;rw[<-hB8]at c84;clear hown4 hgrow4 hb4 W4 HX3 HR3 HO3 c83 HB3 HX2 HR2 HB2 HW2 HROW hbz hs3 hbl hbb hne8 hB8 hgo hgr;go_wp2;go_loopw [34] (fun iv wr=>∃k:Nat,k<=N/\iv= .int .i64 k/\WS w.heap.size B8 b cap go gr N (a1H (frL l) l k) (a1H (qsL l) (List.replicate N 0) k) (a1H (asI (List.range N)) (List.replicate N 0) k) wr/\Below w.heap.size w wr) (fun iv _=>N-(intOf iv).toNat)
  case atStart=>exact⟨0,aot _,rfl,by rw[a7x,a7x,a7x];exact HW4.out,HB4.out⟩
  case round=>
   clear c84 HW4 HB4;obtain⟨k,hk,rfl,hW,hbel⟩:=hrel;by_cases hlt:k<N
   ·have hlt':(k:Int)<(N:Int):=om;obtain⟨b8,x0,d0,o0,q0,fR,fo,fq⟩:=hW.facts hlt;have lF:(frL l).length=N:=by simp[frL,HN.out]
    have lQ:(qsL l).length=N:=by simp[qsL,HN.out]
    have lI:(asI (List.range N)).length=N:=by simp[asI]
    rw[a6K lF hk]at x0 d0;have hx:=WH.out.pos k (by rw[<-HN.out];exact hlt);have EQ:=hid (show (qsL l).getD k 0=(l.getD k (0,0)).1 / (l.getD k (0,0)).2 by simp[qsL,aoh,show k<l.length by rw[<-HN.out];exact hlt]);have EF:=hid (show (frL l).getD k (0,0)=((l.getD k (0,0)).1 % (l.getD k (0,0)).2,(l.getD k (0,0)).2) by simp[frL,aoh,show k<l.length by rw[<-HN.out];exact hlt]);have EI:=hid (show (asI (List.range N)).getD k 0=(k:Int) by simp[asI,aoh,hlt]);have ED:=hid (show ((a1H (frL l) l k).getD k (0,0)).2=(l.getD k (0,0)).2 by rw[a6K lF hk]);have MS:=hid (And.intro (a8Y (A:=frL l) (B:=l) lF HN.out.symm hlt (0,0)) (And.intro (a8Y (A:=qsL l) (B:=List.replicate N 0) lQ oz hlt 0) (a8Y (A:=asI (List.range N)) (B:=List.replicate N 0) lI oz hlt 0)));have HW:=hid hW;have HBL:=hid hbel;generalize hxd:l.getD k (0,0)=xd at *;obtain⟨p,d⟩:=xd;have EX:=hid hxd;clear hxd;simp only at x0 d0 hx EQ EF ED;have hp0:0<=p:=hx.1;have hd1:¬d=0:=om;have hd2:¬d= -1:=om;clear hW hbel lF lQ lI;generalize (a1H (qsL l) (List.replicate N 0) k).getD k 0=y1 at *
    generalize (a1H (asI (List.range N)) (List.replicate N 0) k).getD k 0=y2 at *
    have hn1:¬go=gr:=HW.out.ne;have hn2:¬gr=go:=Ne.symm HW.out.ne;have hlw:=HW.out.lt;have z1:go<wr.heap.size:=hlw.2.2.1;have z2:gr<wr.heap.size:=hlw.2.2.2.1;have hal:Below wr.heap.size wr (wr.alloc (.cells #[.int .i64 p,.int .i64 d] 199)):=(aoi _ wr).alloc (aof _) _
    have o1:=keep_cell hal o0;have q1:=keep_cell hal q0;have fo1:=(hal.frozen (p:=⟨go,k,none⟩) z1).trans fo
    have fq1:=(hal.frozen (p:=⟨gr,k,none⟩) z2).trans fq
    have HAL:=hid hal;clear hlw hal;go_upto_region 10 with fail
    obtain⟨w5,hw5⟩:∃w5,w5=((wr.setCell ⟨go,k,none⟩ (.int .i64 (p / d))).setCell ⟨gr,k,none⟩ (.int .i64 k)).alloc (.cells #[.int .i64 p,.int .i64 d] 199):=⟨_,rfl⟩
    rw[<-hw5]
    have W5:WS w.heap.size B8 b cap go gr N (a1H (frL l) l k) ((a1H (qsL l) (List.replicate N 0) k).set k (p / d)) ((a1H (asI (List.range N)) (List.replicate N 0) k).set k k) w5:=by
     rw[hw5];exact((HW.out.setOut k (p / d)).setOrd k k).below ((aoi _ _).alloc (aof _) _)
    have HW5:=hid W5
    have HB5:=hid (show Below w.heap.size w w5 by
     rw[hw5];have h:=(HBL.out.setCell (p:=⟨go,k,none⟩) HW.out.lt.2.2.2.2.2.1 (.int .i64 (p / d))).setCell (p:=⟨gr,k,none⟩) HW.out.lt.2.2.2.2.2.2 (.int .i64 k)
     exact h.alloc h.size _)
    have t01:=alM (W:=(wr.setCell ⟨go,k,none⟩ (.int .i64 (p / d))).setCell ⟨gr,k,none⟩ (.int .i64 k)) (s:=wr.heap.size) oz (.int .i64 p) (.int .i64 d) 199;rw[<-hw5]at t01;obtain⟨t0,t1⟩:=t01;clear hw5 W5 b8 x0 d0 o0 q0 fR fo fq o1 q1 fo1 fq1 z1 z2;obtain⟨b8,x0,d0,_,_,fR,_,_⟩:=HW5.out.facts hlt;have EV:=hid (a6K (A:=frL l) (B:=l) (n:=N) (by simp[frL,HN.out]) hk (0,0));rw[EV.out]at x0 d0;rw[EX.out]at x0 d0;simp only at x0 d0;generalize hs5:wr.heap.size=s5 at *;clear hs5;go_region
    have HW6:=hid (show WS w.heap.size B8 b cap go gr N (a1H (frL l) l (k+1)) (a1H (qsL l) (List.replicate N 0) (k+1)) (a1H (asI (List.range N)) (List.replicate N 0) (k+1)) (w5.setCell ⟨b,k * 2,none⟩ (.int .i64 (p % d))).drew by
     have h:=HW5.out.setR k (p % d) hlt;rw[ED.out]at h;have m:=MS.out;rw[EF.out,EQ.out,EI.out]at m;rw[m.1,m.2.1,m.2.2]at h;exact h.block (fun _ _=>rfl))
    have HB6:=hid ((HB5.out.setCell (p:=⟨b,k * 2,none⟩) HW5.out.lt.2.2.2.2.1 (.int .i64 (p % d))).drew);clear b8 x0 d0 fR t0 t1;go_wp2;go_roundw
    case rel=>exact⟨k+1,om,by go_num,HW6.out,HB6.out⟩
    case measure=>simp[intOf];omega
   obtain rfl:k=N:=om;have lF:(frL l).length=k:=by simp[frL,HN.out]
   have lQ:(qsL l).length=k:=by simp[qsL,HN.out]
   have lI:(asI (List.range k)).length=k:=by simp[asI]
   rw[a8X lF HN.out.symm,a8X lQ oz,a8X lI oz]at hW;have hgl:G.length=k:=by rw[WH.out.len];exact HN.out.symm
   obtain⟨n1,n2,n3,n4,n5⟩:=hW.nes;obtain⟨z1,z2,z3,z4,z5,z6,z7⟩:=hW.lt;have hOr:OwnI w.heap.size wr gr k (asI (List.range k)):=⟨by rw[lI];exact hW.rord,z7⟩
   have hRb:RatBox B8 b 0 cap (frL l) wr:=⟨by rw[lF];exact(hW.facts hpN).1,fun i hi=>by
    have h:=hW.facts (k:=i) (by rw[<-lF];exact hi);rw[ap5];exact⟨h.2.1,h.2.2.1⟩⟩
   have ST:=hid (abR (n0:=w.heap.size) (cap:=k) WH.out.rep WH.out.mod hgl hpN hN8 hOr hRb ⟨Ne.symm n3,n5⟩ ⟨z1,z2⟩ hbel.size);have HW:=hid hW;have HBL:=hid hbel;have NE:=hid (And.intro n1 (And.intro n2 (And.intro n3 (And.intro n4 n5))));have ZE:=hid (And.intro z1 (And.intro z2 (And.intro z3 z4)));have LI:=hid lI;have LQ:=hid lQ;clear hW hbel hgl hOr hRb n1 n2 n3 n4 n5 z1 z2 z3 z4 z5 z6 z7 lF lQ lI;go_wp2_with fail
   refine ST.out.mono ?_;rintro e w6 ⟨⟨u,rfl⟩,⟨L,hL,hOL⟩,hK⟩;have hll:=orde_len hL;have hLk:L.length=k:=by rw[hll,WH.out.len];exact HN.out.symm
   have hal:(asI L).length=k:=by rw[agd];exact hLk
   have W6:WS w.heap.size B8 b cap go gr k (frL l) (qsL l) (asI L) w6:=
    ⟨(hK.blk _ ZE.out.1 (Ne.symm NE.out.2.2.1)).trans HW.out.box,a0P HW.out.row (hK.blk _ ZE.out.2.1 NE.out.2.2.2.2),a0P HW.out.rout (hK.blk _ ZE.out.2.2.1 HW.out.ne),by have h:=hOL.row;rw[hal]at h;exact h,HW.out.ne,HW.out.lr,HW.out.lo,hal⟩
   have HW6:=hid W6;have HB6:=hid (HBL.out.trans hK.bel);have HL:=hid hL;have HLK:=hid hLk;clear W6 hK hOL hll hal ST hL hLk
   have hIq:IntsAt w6 (.slice (some ⟨go,0,none⟩) k k) (qsL l):=by
    have h:=HW6.out.rout;rw[<-LQ.out]at h⊢;exact own_ints h (by rw[LQ.out];omega)
   have SM:=hid (a5y _ (qsL l) w6 hIq WH.out.cvl);obtain⟨m,hm⟩:=aoH WH.out.lo;have hmk:m<=k:=by have h:=WH.out.hi;rw[hm,<-HN.out]at h;omega
   have HMN:=hid (show whN n l=m by unfold whN;rw[hm];rfl);have e1:IntKind.i64.wrap (n-tot (qsL l))=(m:Int):=by rw[hm];exact IntWalk.i64_in _ om
   generalize tot (qsL l)=T at *;clear hIq;go_wp2_with fail
   refine SM.out.mono ?_;rintro e w' ⟨rfl,rfl⟩;have g0:(0:Int)<=(m:Int):=om;have g1:(m:Int)<=(k:Int):=om
   have IB:=hid (fun L' x=>incL_bd L' (qsL l) 1000 (fun i=>by
    by_cases hi:i<(qsL l).length
    ·exact WH.out.cvl.holds _ (a1v hi)
    rw[aoh,apa om];simp) x)
   go_wp2;clear e1 hm SM;go_loopw [72] (fun iv wr=>∃j:Nat,j<=m/\iv= .int .i64 j/\WS w.heap.size B8 b cap go gr k (frL l) (incL (qsL l) (L.take j)) (asI L) wr/\Below w.heap.size w wr) (fun iv _=>m-(intOf iv).toNat)
   case atStart=>exact⟨0,aot _,rfl,by simpa [incL]using HW6.out,HB6.out⟩
   case round=>
    clear HW6 HB6;obtain⟨j,hj,rfl,hW,hbel⟩:=hrel;by_cases hjm:j<m
    ·have hjm':(j:Int)<(m:Int):=om;have hjL:j<L.length:=by rw[HLK.out];omega
     have hxk:L[j]<k:=by
      have h:=a4J HL.out (aoZ hjL);rw[WH.out.len,<-HN.out]at h;exact h
     have q1:=(hW.facts (k:=j) om).2.2.2.2.1
     rw[aep hjL]at q1;obtain⟨_,_,_,o1,_,_,fo,_⟩:=hW.facts hxk;have TS:=hid (show incL (qsL l) (L.take (j+1))=(incL (qsL l) (L.take j)).set L[j] ((incL (qsL l) (L.take j)).getD L[j] 0+1) by rw[aon hjL,acH]);have hbd:=IB.out (L.take j) L[j];have htl:(L.take j).length<=8:=by rw[aoy];omega
     have HS:=hid (hW.setOut L[j] ((incL (qsL l) (L.take j)).getD L[j] 0+1));have HB:=hid (hbel.setCell (p:=⟨go,L[j],none⟩) hW.lt.2.2.2.2.2.1 (.int .i64 ((incL (qsL l) (L.take j)).getD L[j] 0+1)));have hxk':(L[j]:Int)<(k:Int):=om;generalize L[j]=x at *;generalize (incL (qsL l) (L.take j)).getD x 0=y at *
     clear hW hbel hjL;go_wp2;go_roundw
     case rel=>exact⟨j+1,om,by go_num,by rw[TS.out];exact HS.out,HB.out⟩
     case measure=>simp[intOf];omega
    obtain rfl:j=m:=om
    have HI:=hid (show IntsAt wr (.slice (some ⟨go,0,none⟩) k k) (incL (qsL l) (L.take (whN n l))) by
     rw[HMN.out];have h:=hW.rout;have hl:(incL (qsL l) (L.take j)).length=k:=by rw[incL_len,LQ.out]
     rw[<-hl]at h⊢;exact own_ints h (by rw[hl];omega))
    have HB:=hid hbel;clear hW hbel;go_wp2;refine bodyPost_ret (v:=.tuple #[.slice (some ⟨go,0,none⟩) k k,.int .i64 0]) (by simp[results,results289,go_sem]) rfl ⟨_,L,rfl,HL.out,HI.out,HB.out⟩
 have E:=hid (show a0Z c n r=[] by unfold a0Z;rw[if_neg h0]);have hb:(shareE c n r != 0)=true:=bne_iff_ne.2 h0;have GD:Hid (∀e w',(∃ov,e=Ending.returned (.tuple #[ov,.int .i64 (shareE c n r)])/\IntsAt w' ov []/\Below w.heap.size w w')->GivesH c n r w e w'):=hid (fun e w' ⟨ov,h1,h3,h4⟩=>⟨ov,[],h1,h3,h4,fun _=>rfl,fun h=>absurd h h0⟩);refine Calls.mono ?_ GD.out;clear h0 GD;generalize shareE c n r=se at *;go_enter func289,ntmps289;go_wp2_with fail
 refine SH.out.mono ?_;rintro e w1 ⟨v1,rfl,ho1,hb1⟩;have H1:=ho1.at hl;rw[E.out]at H1;obtain⟨oa,oc,rfl,_⟩:=H1;have HB1:=hid hb1;clear ho1 hb1;go_wp2;refine bodyPost_ret (v:=.tuple #[.slice none 0 0,.int .i64 se]) (by simp[results,results289,go_sem]) rfl ⟨_,rfl,⟨none,0,rfl,by simp,fun h=>by simp at h⟩,HB1.out.alloc HB1.out.size _⟩
end Go.Proofs.YtdfkaijeppdhaaaGreatDoor.Fd
