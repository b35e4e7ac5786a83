/- Texts of this claim, laid together: FdV, FdKb, FdLs, FdWh. -/
import Derived.Test.YtdfkaijeppdhaaaGreatDoorZHp19
import Derived.Test.YtdfkaijeppdhaaaGreatDoorZHp23
import Derived.StillTailTactics

set_option maxRecDepth 100000
set_option maxHeartbeats 8000000
set_option linter.unusedSimpArgs false
set_option linter.unusedVariables false

namespace Go.Proofs.YtdfkaijeppdhaaaGreatDoor.Fd
open Go.RowKit
def Okv(c:List Int)(l:List Rat2):Prop:=l.length=c.length/\∀k,k<c.length->1<=(l.getD k (0,0)).2/\(l.getD k (0,0)).2<=10000/\0<=(l.getD k (0,0)).1/\(l.getD k (0,0)).1<=c.getD k 0 * (l.getD k (0,0)).2
theorem a9V{f:Int->Rat2}{c:List Int}{k:Nat}(hk:k<c.length):(c.map f).getD k (0,0)=f (c.getD k 0):=by
 simp[List.getD_eq_getElem?_getD,hk]
theorem ad8{c:List Int}{e:Int}{l:List Rat2}{f:Int->Int}{Q:Int}(h:Shr c e l f Q):Okv c l:=by
 refine⟨by rw[h.aw,List.length_map],fun k hk=>?_⟩;have hm:=a0V hk;have:=red_in h.hQ (h.lo _ hm) (h.hi _ hm);have hq:=h.hQ2;rw[h.aw,a9V hk];omega
theorem Cvl.shr2{c:List Int}(h:Cvl c){e r:Int}(he:0<=e)(hs:e<=Go.Proofs.YtdfkaijeppdhaaaGreatDoor.Fd.tot c)(hr:1<=r/\r<=4):Shr c e (shareL c e r) (frF c e r) (frQ c e r):=aen h.ne h.pos h.hi h.tot.2 he hs hr
end Go.Proofs.YtdfkaijeppdhaaaGreatDoor.Fd
namespace Go.Proofs.YtdfkaijeppdhaaaGreatDoor.Fd
open Go.RowKit
end Go.Proofs.YtdfkaijeppdhaaaGreatDoor.Fd
namespace Go.Proofs.YtdfkaijeppdhaaaGreatDoor.Fd
open Go.RowKit
def KB(w W:World):Prop:=Below w.heap.size w W
theorem KB.refl(w:World):KB w w:=Below.refl _ _
theorem KB.alloc{w W:World}(h:KB w W)(o:Obj):KB w (W.alloc o):=Below.alloc h h.size o
theorem KB.drew{w W:World}(h:KB w W):KB w W.drew:=Below.drew h
theorem KB.call{w W w2:World}(h:KB w W)(hb:Below W.heap.size W w2):KB w w2:=Below.trans h (hb.mono h.size)
end Go.Proofs.YtdfkaijeppdhaaaGreatDoor.Fd
namespace Go.Proofs.YtdfkaijeppdhaaaGreatDoor.Fd
open Go.RowKit
theorem ad9{c:List Int}{l:List Rat2}(hc:Cvl c)(h:Okv c l):Mod l:=fun x hx=>by
 obtain⟨k,hk,rfl⟩:=List.getElem_of_mem hx;have hk':k<c.length:=by have:=h.1;omega
 obtain⟨h1,h2,h3,h4⟩:=h.2 k hk';have hb:=hc.holds _ (a0V hk');rw[List.getD_eq_getElem?_getD,List.getElem?_eq_getElem hk]at h1 h2 h3 h4;simp only[Option.getD_some]at h1 h2 h3 h4;generalize l[k]=r at *;have h5:c.getD k 0 * r.2<=1000 * r.2:=Int.mul_le_mul_of_nonneg_right (by omega) (by omega);exact⟨by omega,by omega,h1,by omega⟩
structure ShOk(c:List Int)(n r:Int)(l:List Rat2):Prop where
 okv:Okv c l
 mod:Mod l
 pos:0<l.length
 hi:l.length<=8
 val:a0C c n r=l
theorem shOk{c:List Int}{n r:Int}(h:shareE c n r=0):ShOk c n r (shareL c n r):=by
 have ha:askE c n=0/\1<=r/\r<=4:=a4z h;obtain⟨hc,h1,h2⟩:=a4h ha.1;have ho:=ad8 (hc.shr2 h1 h2 ha.2);have h3:=hc.lo;have h4:=hc.hi;exact⟨ho,ad9 hc ho,by rw[ho.1];omega,by rw[ho.1];omega,by unfold a0C;rw[if_pos h]⟩
def Bef(G:List Int)(j i:Nat):Prop:=G.getD i 0<G.getD j 0\/(G.getD i 0=G.getD j 0/\j<i)
structure Orde(G:List Int)(L:List Nat):Prop where
 perm:L.Perm (List.range G.length)
 sorted:L.Pairwise (Bef G)
def incL(q:List Int)(L:List Nat):List Int:=L.foldl (fun o i=>o.set i (o.getD i 0+1)) q
theorem a9W(q:List Int)(L:List Nat)(i:Nat):incL q (L++[i])=(incL q L).set i ((incL q L).getD i 0+1):=by simp[incL,List.foldl_append]
theorem incL_len:∀(L:List Nat) (q:List Int),(incL q L).length=q.length
 |[],q=>rfl
 |i::L,q=>(incL_len L (q.set i (q.getD i 0+1))).trans List.length_set
def zerL(G:List Int)(L:List Nat):List Int:=L.foldl (fun g i=>g.set i 0) G
theorem a7A:∀(L:List Nat) (G:List Int),(zerL G L).length=G.length
 |[],q=>rfl
 |i::L,q=>(a7A L (q.set i 0)).trans List.length_set
theorem ada:∀(L:List Nat) (G:List Int) (j:Nat),(zerL G L).getD j 0=if j∈L then 0 else G.getD j 0
 |[],G,j=>by simp[zerL]
 |i::L,G,j=>by
  have ih:=ada L (G.set i 0) j;rw[show zerL G (i::L)=zerL (G.set i 0) L from rfl,ih];by_cases h1:j∈L
  ·simp[h1]
  by_cases h2:j=i
  ·subst h2;simp[h1,List.getD_eq_getElem?_getD,List.getElem?_set];split<;>simp
  simp[h1,h2,List.getD_eq_getElem?_getD,List.getElem?_set,Ne.symm h2]
def moG(G:List Int):Nat->Nat
 |0=>0
 |k+1=>if G.getD (moG G k) 0<G.getD k 0 then k else moG G k
theorem abp{G:List Int}(h0:0<G.length):∀k,k<=G.length->moG G k<G.length
 |0,_=>h0
 |k+1,h=>by
  unfold moG;split
  ·omega
  exact abp h0 k (by omega)
theorem a9X(G:List Int):∀k,(∀j,j<k->G.getD j 0<=G.getD (moG G k) 0)/\(∀j,j<moG G k->G.getD j 0<G.getD (moG G k) 0)
 |0=>⟨fun j hj=>by omega,fun j hj=>by simp[moG]at hj⟩
 | k+1=>by
  obtain⟨h1,h2⟩:=a9X G k;unfold moG;split
  ·rename_i h
   refine⟨fun j hj=>?_,fun j hj=>?_⟩
   ·rcases Nat.lt_succ_iff_lt_or_eq.1 hj with hj|rfl
    ·have:=h1 j hj;omega
    exact Int.le_refl _
   have:=h1 j hj;omega
  rename_i h
  refine⟨fun j hj=>?_,h2⟩;rcases Nat.lt_succ_iff_lt_or_eq.1 hj with hj|rfl
  ·exact h1 j hj
  omega
theorem moG_is{G:List Int}{b:Nat}(h0:0<G.length)(hb:b<G.length)(h1:∀j,j<G.length->G.getD j 0<=G.getD b 0)(h2:∀j,j<b->G.getD j 0<G.getD b 0):moG G G.length=b:=by
 obtain⟨k1,k2⟩:=a9X G G.length;have hm:=abp h0 G.length (Nat.le_refl _);rcases Nat.lt_trichotomy (moG G G.length) b with h|h|h
 ·have:=h2 _ h;have:=k1 b hb;omega
 ·exact h
 have:=k2 _ h;have:=h1 _ hm;omega
theorem orde_len{G:List Int}{L:List Nat}(h:Orde G L):L.length=G.length:=by rw[h.perm.length_eq];simp
theorem a3m{G:List Int}{L:List Nat}(h:Orde G L){i:Nat}(hi:i∈L):i<G.length:=by
 have:=h.perm.mem_iff.1 hi;simpa using this
theorem ahZ{G:List Int}{L:List Nat}(h:Orde G L){i:Nat}(hi:i<G.length):i∈L:=h.perm.mem_iff.2 (by simpa using hi)
theorem aeo{G:List Int}{L:List Nat}(h:Orde G L):L.Nodup:=h.perm.nodup_iff.2 List.nodup_range
theorem ajf{G:List Int}{L:List Nat}(h:Orde G L)(hG:∀i,i<G.length->0<=G.getD i 0){k:Nat}(hk:k<L.length)(hp:0<G.getD L[k] 0):moG (zerL G (L.take k)) G.length=L[k]:=by
 have hn:=aeo h;have hb:L[k]<G.length:=a3m h (List.getElem_mem hk)
 have hbn:L[k]∉L.take k:=fun hm=>by
  obtain⟨j,hj,he⟩:=List.getElem_of_mem hm;rw[List.getElem_take]at he;have hjk:j<k:=by rw[List.length_take]at hj;omega
  exact(List.pairwise_iff_getElem.1 hn j k (by omega) hk hjk) he
 have hval:∀j,(zerL G (L.take k)).getD j 0=if j∈L.take k then 0 else G.getD j 0:=fun j=>ada _ _ j
 have hlen:=a7A (L.take k) G
 have key:∀j,j<G.length->j∉L.take k->j=L[k]\/Bef G L[k] j:=fun j hj hm=>by
  obtain⟨i,hi,rfl⟩:=List.getElem_of_mem (ahZ h hj);rcases Nat.lt_trichotomy i k with h1|rfl|h1
  ·exact absurd (List.mem_iff_getElem.2 ⟨i,by rw[List.length_take];omega,by rw[List.getElem_take]⟩) hm
  ·exact .inl rfl
  exact .inr (List.pairwise_iff_getElem.1 h.sorted k i hk hi h1)
 rw[<-hlen];refine moG_is (by rw[hlen];omega) (by rw[hlen];exact hb) (fun j hj=>?_) (fun j hj=>?_)
 ·rw[hval,hval,if_neg hbn];split
  ·omega
  rename_i hm
  rcases key j (by omega) hm with rfl|h1|⟨h1,_⟩<;>omega
 rw[hval,hval,if_neg hbn];split
 ·omega
 rename_i hm
 rcases key j (by omega) hm with rfl|h1|⟨h1,h2⟩<;>omega
theorem a4L{Q:Int}:∀(l:List Int) (k:Nat),(∀x∈l,x<=Q)->0<=Q->(l.take k).sum<=k * Q
 |[],k,_,hQ=>by simp;exact Int.mul_nonneg (by omega) hQ
 |x::l,0,_,_=>by simp
 |x::l,k+1,h,hQ=>by
  have ih:=a4L l k (fun y hy=>h y (by simp[hy])) hQ;have hx:=h x (by simp);rw[List.take_succ_cons,List.sum_cons];push_cast;rw[Int.add_mul];omega
theorem abq:∀(l:List Int),(∀x∈l,x=0)->l.sum=0
 |[],_=>rfl
 |x::l,h=>by rw[List.sum_cons,h x (by simp),abq l (fun y hy=>h y (by simp[hy]))];rfl
theorem agm{a b:List Int}(h:a.Perm b):a.sum=b.sum:=by
 induction h with
 |nil=>rfl
 |cons x _ ih=>rw[List.sum_cons,List.sum_cons,ih]
 |swap x y l=>simp only[List.sum_cons];omega
 |trans _ _ h1 h2=>exact h1.trans h2
theorem a9f(G:List Int):(List.range G.length).map (fun i=>G.getD i 0)=G:=by
 apply List.ext_getElem
 ·simp
 intro i h1 h2;simp[List.getD_eq_getElem?_getD,h2]
theorem ai0{G:List Int}{L:List Nat}{Q left:Int}(h:Orde G L)(hG:∀i,i<G.length->0<=G.getD i 0/\G.getD i 0<Q)(hs:G.sum=left * Q)(hQ:1<=Q){k:Nat}(hk:(k:Int)<left):∃hk:k<L.length,0<G.getD L[k] 0:=by
 have hsum:(L.map fun i=>G.getD i 0).sum=left * Q:=by
  rw[agm (h.perm.map _),a9f,hs]
 have hle:∀x∈(L.map fun i=>G.getD i 0),x<=Q:=fun x hx=>by
  obtain⟨i,hi,rfl⟩:=List.mem_map.1 hx;have:=hG i (a3m h hi);omega
 have hcon:∀(hz:∀x∈(L.map fun i=>G.getD i 0).drop k,x=0),False:=fun hz=>by
  have h1:=a4L _ k hle (by omega);have h2:=abq _ hz
  have h3:((L.map fun i=>G.getD i 0).take k).sum+((L.map fun i=>G.getD i 0).drop k).sum=left * Q:=by
   rw[<-List.sum_append,List.take_append_drop,hsum]
  have h4:(k+1:Int) * Q<=left * Q:=Int.mul_le_mul_of_nonneg_right (by omega) (by omega);rw[Int.add_mul]at h4;omega
 by_cases hkl:k<L.length
 ·refine⟨hkl,?_⟩;have h0:=hG L[k] (a3m h (List.getElem_mem hkl));by_cases hz:G.getD L[k] 0=0
  ·exfalso;refine hcon (fun x hx=>?_);rw[<-List.map_drop]at hx;obtain⟨i,hi,rfl⟩:=List.mem_map.1 hx;obtain⟨j,hj,rfl⟩:=List.getElem_of_mem hi;rw[List.getElem_drop];have hj':k+j<L.length:=by rw[List.length_drop]at hj;omega
   have hb:=hG L[k+j] (a3m h (List.getElem_mem hj'));rcases Nat.eq_zero_or_pos j with rfl|hp
   ·simpa using hz
   rcases List.pairwise_iff_getElem.1 h.sorted k (k+j) hkl hj' (by omega)with h1|⟨h1,_⟩<;>omega
  omega
 exfalso;exact hcon (fun x hx=>by rw[List.drop_eq_nil_of_le (by simp;omega)]at hx;simp at hx)
end Go.Proofs.YtdfkaijeppdhaaaGreatDoor.Fd
